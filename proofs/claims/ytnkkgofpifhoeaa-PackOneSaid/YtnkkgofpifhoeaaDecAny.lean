/- The packet that bytes are: pack.Decode: at all bytes. -/
import Derived.Test.YtnkkgofpifhoeaaPkt
import Derived.Test.YtnkkgofpifhoeaaDecode1
import Derived.Test.YtnkkgofpifhoeaaDecode2
import Derived.Test.YtnkkgofpifhoeaaDecode3
import Derived.Test.YtnkkgofpifhoeaaDecode4
namespace Go.Proofs.Ytnkkgofpifhoeaa.Pk
open Go.RowKit Go.Proofs.Ytnkkgofpifhoeaa.Base Go.Proofs.YtnkkgofpifhoeaaW.PrintWords Go.Proofs.YtnkkgofpifhoeaaW.PrintLast Go.Proofs.Ytnkkgofpifhoeaa.Steps
set_option linter.unusedSimpArgs false
set_option linter.unusedVariables false
set_option maxRecDepth 100000 in
set_option maxHeartbeats 4000000 in
theorem decode_none (A : Option Addr) (c : Nat) (w : World) :
    Calls Try.prog 16 #[.slice A 0 c] w fun e w' => e = .returned (.tuple #[.agg #[.int .i64 0, .int .u32 0, .int .u32 0, .int .u32 0, .int .u32 0, .int .u32 0, .int .u32 0, .int .u32 0, .complex .f64 0 0, .slice none 0 0], .int .i64 103]) ∧ Below w.heap.size w w' := by
  have hu27 := Try.underlying27
  have hbz := bz27
  have hal := al27
  go_enter Try.func16, Try.ntmps16
  go_wp2_with (first | ((with_reducible refine gate_ (.store 27 (.tmp 2) (.tmp 12)) rfl ?_); refine store_row_F rfl rfl 27 (.tmp 2) (.tmp 12) rfl w.heap.size _ rfl rfl 27 #[.int .i64 0, .int .u32 0, .int .u32 0, .int .u32 0, .int .u32 0, .int .u32 0, .int .u32 0, .int .u32 0, .complex .f64 0 0, .slice none 0 0] (heap_alloc_new w _) (by kernel_rfl) rfl (by kernel_rfl) ?_; intro w5 hb5 hat5; have HB5 := Lib.hid hb5; have HAT5 := Lib.hid hat5; clear hb5 hat5))
  refine bodyPost_ret (v := .tuple #[.agg #[.int .i64 0, .int .u32 0, .int .u32 0, .int .u32 0, .int .u32 0, .int .u32 0, .int .u32 0, .int .u32 0, .complex .f64 0 0, .slice none 0 0], .int .i64 103]) ?_ rfl ⟨rfl, HAT5.out.below ((Below.refl _ _).alloc (Nat.le_refl _) _) (Nat.le_refl _)⟩
  have hl5 := run_loadVar_row (P := Try.prog) w5 w.heap.size 27 27 _ (0, 0) _ HB5.out Try.underlying27 rfl (by kernel_rfl)
  exact results_cell2 Try.results16 _ _ rfl rfl hl5
set_option maxRecDepth 100000 in
set_option maxHeartbeats 4000000 in
theorem decode_kind (ad : Addr) (n c : Nat) (k : Int) (w : World) (hx0 : w.cell? ad = some (.int .u8 k)) (h0 : 0 < n) (hk : k < 1 ∨ 4 < k) (hk0 : 0 ≤ k) (hk1 : k < 256) :
    Calls Try.prog 16 #[.slice (some ad) n c] w fun e w' => e = .returned (.tuple #[.agg #[.int .i64 0, .int .u32 0, .int .u32 0, .int .u32 0, .int .u32 0, .int .u32 0, .int .u32 0, .int .u32 0, .complex .f64 0 0, .slice none 0 0], .int .i64 100]) ∧ Below w.heap.size w w' := by
  have hu27 := Try.underlying27
  have hbz := bz27
  have hal := al27
  have hne : ((n : Int) == 0) = false := beq_eq_false_iff_ne.2 (by omega)
  have hx1 := fun o => cell_alloc_of hx0 o
  rcases hk with hk | hk
  all_goals
    go_enter Try.func16, Try.ntmps16
    go_wp2_with (first | ((with_reducible refine gate_ (.store 27 (.tmp 2) (.tmp 23)) rfl ?_); refine store_row_F rfl rfl 27 (.tmp 2) (.tmp 23) rfl w.heap.size _ rfl rfl 27 #[.int .i64 0, .int .u32 0, .int .u32 0, .int .u32 0, .int .u32 0, .int .u32 0, .int .u32 0, .int .u32 0, .complex .f64 0 0, .slice none 0 0] (heap_alloc_new w _) (by kernel_rfl) rfl (by kernel_rfl) ?_; intro w5 hb5 hat5; have HB5 := Lib.hid hb5; have HAT5 := Lib.hid hat5; clear hb5 hat5))
    refine bodyPost_ret (v := .tuple #[.agg #[.int .i64 0, .int .u32 0, .int .u32 0, .int .u32 0, .int .u32 0, .int .u32 0, .int .u32 0, .int .u32 0, .complex .f64 0 0, .slice none 0 0], .int .i64 100]) ?_ rfl ⟨rfl, HAT5.out.below ((Below.refl _ _).alloc (Nat.le_refl _) _) (Nat.le_refl _)⟩
    have hl5 := run_loadVar_row (P := Try.prog) w5 w.heap.size 27 27 _ (0, 0) _ HB5.out Try.underlying27 rfl (by kernel_rfl)
    exact results_cell2 Try.results16 _ _ rfl rfl hl5
theorem decode_any (A : Option Addr) (c : Nat) (l : List Int) (w : World) (hC : Kd.C (Kd.int .u8) w A l.length l) (hcap : l.length ≤ c) (hby : bytesB l) (hmx : l.length ≤ 1000000) :
    Calls Try.prog 16 #[.slice A l.length c] w (DecPost l w) := by
  by_cases h0 : l.length = 0
  · have hd : decC l = 103 := by rw [decC, if_pos h0]
    have hc : Calls Try.prog 16 #[.slice A l.length c] w fun e w' => e = .returned (.tuple #[.agg #[.int .i64 0, .int .u32 0, .int .u32 0, .int .u32 0, .int .u32 0, .int .u32 0, .int .u32 0, .int .u32 0, .complex .f64 0 0, .slice none 0 0], .int .i64 103]) ∧ Below w.heap.size w w' := by
      rw [h0]
      exact decode_none A c w
    exact hc.mono fun e w' h => DecPost.bad hd (by decide) h
  obtain ⟨ad, eA, hx⟩ := Kd.at_int hC 0 (by omega) (by omega)
  subst eA
  have ha0 : ad.add (0 : Int).toNat = ad := by simp [Addr.add]
  rw [ha0] at hx
  have hr := hby.at 0 (by omega)
  have hr0 : 0 ≤ rd l 0 := hr.1
  have hr1 : rd l 0 < 256 := hr.2
  by_cases hk : rd l 0 < 1 ∨ 4 < rd l 0
  · have hd : decC l = 100 := by rw [decC, if_neg h0, if_pos hk]
    exact (decode_kind ad l.length c _ w hx (by omega) hk hr0 hr1).mono fun e w' h => DecPost.bad hd (by decide) h
  have hkk : rd l 0 = 1 ∨ rd l 0 = 2 ∨ rd l 0 = 3 ∨ rd l 0 = 4 := by omega
  have n4 := fun a => num4_at l a hby
  have n8 := fun a => num8_at l a hby
  rcases hkk with hk1 | hk1 | hk1 | hk1
  · by_cases hs : l.length < 14
    · have hd : decC l = 103 := by rw [decC, if_neg h0, if_neg hk, if_pos (by rw [hk1]; exact hs)]
      exact (Pk1.decode_short ad l.length c l w hC rfl hk1 (by omega) hs).mono fun e w' h => DecPost.bad hd (by decide) h
    by_cases hm : 14 < l.length
    · have hd : decC l = 102 := by rw [decC, if_neg h0, if_neg hk, if_neg (by rw [hk1]; exact hs), if_pos (by rw [hk1]; exact hm)]
      exact (Pk1.decode_long ad l.length c l w hC rfl hk1 (by omega) hm).mono fun e w' h => DecPost.bad hd (by decide) h
    have hp : pktOf l = pkt1 l := by rw [pktOf, if_pos hk1]
    have hd : decC l = (pkt1 l).code := by rw [decC, if_neg h0, if_neg hk, if_neg (by rw [hk1]; exact hs), if_neg (by rw [hk1]; exact hm), hp]
    refine (Pk1.decode_proper ad l.length c l (l.drop 1) w rfl hC rfl hcap hk1 (by omega) (by omega) (by omega)).mono ?_
    intro e w' h
    have n1 := num1_at l 13 hby (by omega)
    simp only [num4, cut4, num8, cut8, num1, cut1, List.drop_drop, Nat.reduceAdd, n4, n8, n1] at h
    exact DecPost.flat (pkt1 l) hp hd rfl h
  · by_cases hs : l.length < 22
    · have hd : decC l = 103 := by rw [decC, if_neg h0, if_neg hk, if_pos (by rw [hk1]; exact hs)]
      exact (Pk2.decode_short ad l.length c l w hC rfl hk1 (by omega) hs).mono fun e w' h => DecPost.bad hd (by decide) h
    by_cases hm : 1021 < l.length
    · have hd : decC l = 102 := by rw [decC, if_neg h0, if_neg hk, if_neg (by rw [hk1]; exact hs), if_pos (by rw [hk1]; exact hm)]
      exact (Pk2.decode_long ad l.length c l w hC rfl hk1 (by omega) hm).mono fun e w' h => DecPost.bad hd (by decide) h
    have hp : pktOf l = pkt2 l := by rw [pktOf, if_neg (by rw [hk1]; decide), if_pos hk1]
    have hd : decC l = (pkt2 l).code := by rw [decC, if_neg h0, if_neg hk, if_neg (by rw [hk1]; exact hs), if_neg (by rw [hk1]; exact hm), hp]
    refine (Pk2.decode_proper ad l.length c l (l.drop 1) w rfl hC rfl hcap hk1 (by omega) (by omega) (by omega)).mono ?_
    intro e w' h
    simp only [num4, cut4, num8, cut8, num1, cut1, List.drop_drop, Nat.reduceAdd, n4, n8] at h
    exact DecPost.long (pkt2 l) hp hd h
  · by_cases hs : l.length < 17
    · have hd : decC l = 103 := by rw [decC, if_neg h0, if_neg hk, if_pos (by rw [hk1]; exact hs)]
      exact (Pk3.decode_short ad l.length c l w hC rfl hk1 (by omega) hs).mono fun e w' h => DecPost.bad hd (by decide) h
    by_cases hm : 17 < l.length
    · have hd : decC l = 102 := by rw [decC, if_neg h0, if_neg hk, if_neg (by rw [hk1]; exact hs), if_pos (by rw [hk1]; exact hm)]
      exact (Pk3.decode_long ad l.length c l w hC rfl hk1 (by omega) hm).mono fun e w' h => DecPost.bad hd (by decide) h
    have hp : pktOf l = pkt3 l := by rw [pktOf, if_neg (by rw [hk1]; decide), if_neg (by rw [hk1]; decide), if_pos hk1]
    have hd : decC l = (pkt3 l).code := by rw [decC, if_neg h0, if_neg hk, if_neg (by rw [hk1]; exact hs), if_neg (by rw [hk1]; exact hm), hp]
    refine (Pk3.decode_proper ad l.length c l (l.drop 1) w rfl hC rfl hcap hk1 (by omega) (by omega) (by omega)).mono ?_
    intro e w' h
    simp only [num4, cut4, num8, cut8, num1, cut1, List.drop_drop, Nat.reduceAdd, n4, n8] at h
    exact DecPost.flat (pkt3 l) hp hd rfl h
  · by_cases hs : l.length < 41
    · have hd : decC l = 103 := by rw [decC, if_neg h0, if_neg hk, if_pos (by rw [hk1]; exact hs)]
      exact (Pk4.decode_short ad l.length c l w hC rfl hk1 (by omega) hs).mono fun e w' h => DecPost.bad hd (by decide) h
    by_cases hm : 41 < l.length
    · have hd : decC l = 102 := by rw [decC, if_neg h0, if_neg hk, if_neg (by rw [hk1]; exact hs), if_pos (by rw [hk1]; exact hm)]
      exact (Pk4.decode_long ad l.length c l w hC rfl hk1 (by omega) hm).mono fun e w' h => DecPost.bad hd (by decide) h
    have hp : pktOf l = pkt4 l := by rw [pktOf, if_neg (by rw [hk1]; decide), if_neg (by rw [hk1]; decide), if_neg (by rw [hk1]; decide)]
    have hd : decC l = (pkt4 l).code := by rw [decC, if_neg h0, if_neg hk, if_neg (by rw [hk1]; exact hs), if_neg (by rw [hk1]; exact hm), hp]
    refine (Pk4.decode_proper ad l.length c l (l.drop 1) w rfl hC rfl hcap hk1 (by omega) (by omega) (by omega)).mono ?_
    intro e w' h
    simp only [num4, cut4, num8, cut8, num1, cut1, List.drop_drop, Nat.reduceAdd, n4, n8] at h
    exact DecPost.flat (pkt4 l) hp hd rfl h
end Go.Proofs.Ytnkkgofpifhoeaa.Pk
