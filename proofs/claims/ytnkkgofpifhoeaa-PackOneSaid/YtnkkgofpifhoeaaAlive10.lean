/- The chapter's examples of packets hold: rookerylaw10.alive. -/
import Derived.Test.YtnkkgofpifhoeaaDecAny
import Derived.Test.YtnkkgofpifhoeaaEnc1
namespace Go.Proofs.Ytnkkgofpifhoeaa.Pk
open Go.RowKit Go.Proofs.Ytnkkgofpifhoeaa.Base Go.Proofs.YtnkkgofpifhoeaaW.PrintWords Go.Proofs.YtnkkgofpifhoeaaW.PrintLast Go.Proofs.Ytnkkgofpifhoeaa.Steps
set_option linter.unusedSimpArgs false
set_option linter.unusedVariables false
def l14 : List Int := [0, 0, 0, 0, 0, 0, 0, 0, 0, 0, 0, 0, 0, 0]
def l17 : List Int := [3, 0, 0, 0, 1, 0, 0, 0, 5, 0, 0, 0, 2, 0, 0, 0, 9]
def hello1 : List Int := [1, 0, 0, 0, 1, 0, 0, 0, 0, 0, 0, 0, 0, 0]
theorem mk14 (w : World) : (Instr.makeSlice 22 (.int .i64 14) (.int .i64 14)).run Try.prog w = .ok (.slice (some ⟨w.heap.size, 0, none⟩) 14 14) (w.alloc (.cells (l14.map (Value.int .u8)).toArray 5)) := by kernel_rfl
theorem dec14 : decC l14 = 100 := by decide +kernel
theorem dec17 : decC l17 = 0 := by decide +kernel
theorem pk17 : pktOf l17 = ⟨3, 1, 5, 2, 0, 9, 0, 0, 0, 0, []⟩ := by kernel_rfl
theorem hello_is : (((([1] ++ put4 (IntKind.u64.wrap 1)) ++ put4 (IntKind.u64.wrap 0)) ++ put4 (IntKind.u64.wrap 0)) ++ [IntKind.u8.wrap 0]) = hello1 := by decide +kernel
theorem chk_hello : checkP 1 1 0 0 0 0 0 0 0 0 ([] : List Int).length = 0 := by decide +kernel
theorem by14 : bytesB l14 := fun c hc => by
  simp [l14] at hc
  omega
theorem by17 : bytesB l17 := fun c hc => by
  simp [l17] at hc
  omega
theorem lit_C (W : World) (xs : List Int) (hl : xs.length ≤ 1000000) : (Kd.int .u8).C (W.alloc (.cells (xs.map (Value.int .u8)).toArray 5)) (some ⟨W.heap.size, 0, none⟩) xs.length xs := by
  obtain ⟨A, c, he, _, hC⟩ := Kd.R_reads (lit_R W 0 xs (Nat.zero_le _) hl)
  injection he with h1 _ _
  subst h1
  exact hC
theorem hk_lit (w : World) : (convert 22 9 (.slice (some ⟨w.heap.size, 0, none⟩) 14 14)).run Try.prog (w.alloc (.cells #[.int .u8 1, .int .u8 0, .int .u8 0, .int .u8 0, .int .u8 1, .int .u8 0, .int .u8 0, .int .u8 0, .int .u8 0, .int .u8 0, .int .u8 0, .int .u8 0, .int .u8 0, .int .u8 0] 5)) = .ok (.string (strOfNums hello1)) (w.alloc (.cells #[.int .u8 1, .int .u8 0, .int .u8 0, .int .u8 0, .int .u8 1, .int .u8 0, .int .u8 0, .int .u8 0, .int .u8 0, .int .u8 0, .int .u8 0, .int .u8 0, .int .u8 0, .int .u8 0] 5)) :=
  Kd.C_string (P := Try.prog) (c := 14) Try.underlying22 Try.underlying5 Try.underlying9 (lit_C w hello1 (by decide))
set_option maxRecDepth 100000 in
set_option maxHeartbeats 4000000 in
theorem alive10 (w : World) : Calls Try.prog 15 #[] w fun e w' => e = .returned (.bool true) ∧ Below w.heap.size w w' := by
  have hu27 := Try.underlying27
  have hbz := bz27
  have hal := al27
  have hmk := mk14
  have hk3 := hk_lit
  go_enter Try.func15, Try.ntmps15
  go_wp2_with fail
  refine (Ek1.encode_1 1 0 0 0 0 0 0 0 0 none 0 [] w (Kd.C_nil _ _) (by decide) chk_hello (by decide) (by decide)).mono ?_
  rintro e w1 ⟨v1, rfl, hR1, hb1⟩
  rw [hello_is] at hR1
  have HR1 := Lib.hid hR1
  have HW1 := Lib.hid hb1
  clear hR1 hb1
  go_wp2_with fail
  refine (decode_any (some ⟨w1.heap.size, 0, none⟩) 14 l14 _ (lit_C w1 l14 (by decide)) (by decide) by14 (by decide)).mono ?_
  rintro e w2 ⟨v2, rfl, hR2, hb2⟩
  obtain ⟨A2, c2, hv2⟩ := Kd.R_slice hR2
  subst hv2
  have hp14 : decP l14 = Pkt.zero := by rw [decP, dec14]; rfl
  rw [dec14, hp14]
  have hb3 : Below w1.heap.size w1 w2 := ((Below.refl w1.heap.size w1).alloc (Nat.le_refl _) _).trans (hb2.mono (by simp))
  have HR2 := Lib.hid (Kd.R_below HR1.out hb3)
  have HW2 := Lib.hid (HW1.out.trans (hb3.mono HW1.out.size))
  clear hR2 hb2 hb3 HR1 HW1 hp14
  simp only [pcells, Pkt.zero, List.length_nil]
  go_wp2_with (first | ((with_reducible refine gate_ (.store 27 (.tmp 3) (.tmp 15)) rfl ?_); refine store_row_F rfl rfl 27 (.tmp 3) (.tmp 15) rfl w2.heap.size _ rfl rfl 27 _ (heap_alloc_new w2 _) (by kernel_rfl) rfl (by kernel_rfl) ?_; intro w3 hb5 hat5; have HAT3 := Lib.hid hat5; clear hb5 hat5))
  have hb3 : Below w2.heap.size w2 w3 := HAT3.out.below ((Below.refl w2.heap.size w2).alloc (Nat.le_refl _) _) (Nat.le_refl _)
  have HR3 := Lib.hid (Kd.R_below HR2.out hb3)
  have HW3 := Lib.hid (HW2.out.trans (hb3.mono HW2.out.size))
  clear hb3 HR2 HW2 HAT3
  refine (decode_any (some ⟨w3.heap.size, 0, none⟩) 17 l17 _ (lit_C w3 l17 (by decide)) (by decide) by17 (by decide)).mono ?_
  rintro e w4 ⟨v4, rfl, hR4, hb4⟩
  obtain ⟨A4, c4, hv4⟩ := Kd.R_slice hR4
  subst hv4
  have hp17 : decP l17 = ⟨3, 1, 5, 2, 0, 9, 0, 0, 0, 0, []⟩ := by rw [decP, dec17, if_pos rfl, pk17]
  rw [dec17, hp17]
  have hb3 : Below w3.heap.size w3 w4 := ((Below.refl w3.heap.size w3).alloc (Nat.le_refl _) _).trans (hb4.mono (by simp))
  have HR4 := Lib.hid (Kd.R_below HR3.out hb3)
  have HW4 := Lib.hid (HW3.out.trans (hb3.mono HW3.out.size))
  clear hR4 hb4 hb3 HR3 HW3 hp17
  simp only [pcells, List.length_nil]
  obtain ⟨A1, c1, hv1, hl1, hC1⟩ := Kd.R_reads HR4.out
  subst hv1
  have HC1 := Lib.hid hC1
  clear hC1
  go_wp2_with (first | ((with_reducible refine gate_ (.store 27 (.tmp 5) (.tmp 20)) rfl ?_); (refine store_row_F rfl rfl 27 (.tmp 5) (.tmp 20) rfl w4.heap.size _ rfl rfl 27 _ (heap_alloc_new w4 _) (by kernel_rfl) rfl (by kernel_rfl) ?_); (intro w5 hb5 hat5); (have HB5 := Lib.hid hb5); (have hc2 : w5.cell? ⟨w4.heap.size, 2, none⟩ = some (.int .u32 5) := (blk_cell hb5 2).trans rfl); (have hc5 : w5.cell? ⟨w4.heap.size, 5, none⟩ = some (.int .u32 9) := (blk_cell hb5 5).trans rfl); (have hb9 : Below w4.heap.size w4 w5 := hat5.below ((Below.refl w4.heap.size w4).alloc (Nat.le_refl _) _) (Nat.le_refl _)); (have HW5 := Lib.hid (HW4.out.trans (hb9.mono HW4.out.size))); (have hC9 := Kd.C_below HC1.out hb9); (have hk1 := Kd.C_string (P := Try.prog) (c := c1) Try.underlying22 Try.underlying5 Try.underlying9 hC9); (have hl5 : w4.heap.size < w5.heap.size := by (have := blk_lt hb5; omega)); (clear hb5 hat5 hb9 hC9)) | (go_at_call 20; refine (check_more 5 0 0 0 0 0 0 0 0 0 none 0 0 _ (by decide)).mono ?_; rintro e w6 ⟨rfl, hb6⟩; have HW6 := Lib.hid hb6; clear hb6))
  go_ret
  refine ⟨ret_bool (by simp), ?_⟩
  exact (HW5.out.alloc HW5.out.size _).trans (HW6.out.mono (by have := HW5.out.size; simp; omega))
end Go.Proofs.Ytnkkgofpifhoeaa.Pk
