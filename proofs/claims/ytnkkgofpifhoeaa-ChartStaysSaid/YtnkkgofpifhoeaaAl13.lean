/- The chapter's examples of a chart hold: rookerylaw13.alive. -/
import Derived.Test.YtnkkgofpifhoeaaCh5
namespace Go.Proofs.Ytnkkgofpifhoeaa.Ch
open Go.RowKit Go.Proofs.Ytnkkgofpifhoeaa.Flt Go.Proofs.Ytnkkgofpifhoeaa.Base Go.Proofs.Ytnkkgofpifhoeaa.Num Go.Proofs.Ytnkkgofpifhoeaa.Steps Go.Proofs.YtnkkgofpifhoeaaW.PrintWords Go.Proofs.YtnkkgofpifhoeaaW.PrintLast
set_option linter.unusedSimpArgs false
set_option linter.unusedVariables false
theorem run_ceq (W : World) (t : TypeId) (x y u v : Nat) (b c : Bool) (h1 : (FloatKind.f64.format.order x u == some Ordering.eq) = b) (h2 : (FloatKind.f64.format.order y v == some Ordering.eq) = c) : (binOp .eql t (.complex .f64 x y) (.complex .f64 u v)).run Try.prog W = .ok (.bool (b && c)) W := by
  subst h1 h2
  simp [binOp, Op.complexOp, Op.Complex.cmp, Op.floatCmp, asBool]
theorem run_cne (W : World) (t : TypeId) (x y u v : Nat) (b c : Bool) (h1 : (FloatKind.f64.format.order x u == some Ordering.eq) = b) (h2 : (FloatKind.f64.format.order y v == some Ordering.eq) = c) : (binOp .neq t (.complex .f64 x y) (.complex .f64 u v)).run Try.prog W = .ok (.bool !(b && c)) W := by
  subst h1 h2
  simp [binOp, Op.complexOp, Op.Complex.cmp, Op.floatCmp, asBool]
theorem run_fgt (w : World) (t : TypeId) (x y : Nat) (b : Bool) (h : (Ieee.double.order x y == some .gt) = b) : (binOp .gtr t (.float .f64 x) (.float .f64 y)).run Try.prog w = .ok (.bool b) w := by
  subst h
  simp [binOp, Op.floatCmp, FloatKind.format]
def f3 : Nat := 4613937818241073152
def f4 : Nat := 4616189618054758400
theorem f3_is : F 3 = 4613937818241073152 := by decide +kernel
theorem f4_is : F 4 = 4616189618054758400 := by decide +kernel
theorem nofound : found #[] 2 = some none := by kernel_rfl
def ent : Array MapEntry := #[{ key := .int .i64 2, val := .complex .f64 4613937818241073152 4616189618054758400, born := 0 }]
theorem ent_is : putE #[] 0 2 (.complex .f64 4613937818241073152 4616189618054758400) = ent := rfl
theorem found2 : found ent 2 = some (some (0, .complex .f64 4613937818241073152 4616189618054758400)) := by kernel_rfl
theorem found3 : found ent 3 = some none := by kernel_rfl
theorem ent_mod : (ent.modify 0 fun e => { e with key := .int .i64 2, val := .complex .f64 4613937818241073152 4616189618054758400 }) = ent := by rfl
/-- The first trip fits: nothing moves. -/
theorem trip5 (W : World) : Calls Try.prog 70 #[.complex .f64 0 0, .complex .f64 4613937818241073152 4616189618054758400, .int .i64 5] W fun e w' => e = .returned (.complex .f64 0 0) ∧ Below W.heap.size W w' := by
  have h := moved_F 0 0 3 4 5 (by unfold small; decide) (by unfold small; decide) (by unfold small; decide) (by unfold small; decide) (by decide) (by decide) W
  rw [f3_is, f4_is, F_zero] at h
  exact h
/-- The second one is none: the place moves to the other one. -/
theorem sq34 (w : World) : Calls Try.prog 103 #[.complex .f64 0 0, .complex .f64 4613937818241073152 4616189618054758400] w fun e w' => e = .returned (.float .f64 4627730092099895296) ∧ w = w' := by
  have h := square_F 0 0 3 4 (by unfold small; decide) (by unfold small; decide) (by unfold small; decide) (by unfold small; decide) w
  have e : F (sqd 0 0 3 4) = 4627730092099895296 := by decide +kernel
  rw [f3_is, f4_is, F_zero, e] at h
  exact h
theorem cln_plain (x : Nat) (h : nul x = false) : Cln x x := by
  intro w
  have he : (FloatKind.f64.format.order x 0 == some Ordering.eq) = false := by rw [fzero, h]
  clear h
  go_enter Try.func126, Try.ntmps126
  go_wp2
  go_ret
  exact ⟨rfl, rfl⟩
theorem trip0 (W : World) : Calls Try.prog 70 #[.complex .f64 0 0, .complex .f64 4613937818241073152 4616189618054758400, .int .i64 0] W fun e w' => e = .returned (.complex .f64 4586656397421424955 4588821589549968463) ∧ Below W.heap.size W w' :=
  moved_of 0 0 4613937818241073152 4616189618054758400 4627730092099895296 0 13851102128954671104 4627730092099895296 4628011567076605952 13830208024914226255 13803186427150003279 13837309855095848960 13839561654909534208 4586656397421424955 4588821589549968463 4586656397421424955 4588821589549968463 4586656397421424955 4588821589549968463 0 sq34 (by decide +kernel)
    (by decide +kernel) (by decide +kernel) (by decide +kernel) (by decide +kernel) (by decide +kernel) (by decide +kernel) (by decide +kernel) (by decide +kernel) (by decide +kernel) (by decide +kernel) (by decide +kernel) (by decide +kernel) (by decide +kernel) (by decide +kernel)
    (cln_plain _ (by decide +kernel)) (cln_plain _ (by decide +kernel)) W
theorem lit_C64 (W : World) (xs : List Int) (hl : xs.length ≤ 1000000) : (Kd.int .i64).C (W.alloc (.cells (xs.map (Value.int .i64)).toArray 3)) (some ⟨W.heap.size, 0, none⟩) xs.length xs := by
  have h2 := World.ownsRow_lit (base := 0) (e := 3) (size := 1) W (xs.map (Value.int .i64)).toArray xs.length (Nat.zero_le _) (by unfold maxLen; omega) (by simp)
  have hR : (Kd.int .i64).R 3 (W.alloc (.cells (xs.map (Value.int .i64)).toArray 3)) 0 (fun _ => True) (.slice (some ⟨W.heap.size, 0, none⟩) xs.length xs.length) xs := Kd.R_of_own (enc := Value.int .i64) (h1 := fun _ => rfl) (by simpa [encs] using h2) (fun _ _ => trivial)
  obtain ⟨A, c, he, _, hC⟩ := Kd.R_reads hR
  injection he with h1 _ _
  subst h1
  exact hC
set_option maxRecDepth 100000 in
set_option maxHeartbeats 4000000 in
theorem alive13 (w : World) : Calls Try.prog 21 #[] w fun e w' => e = .returned (.bool true) ∧ Below w.heap.size w w' := by
  have hne0 := fun W => run_cne W 25 0 0 0 0 true true (by decide +kernel) (by decide +kernel)
  have heq := fun W => run_ceq W 25 4613937818241073152 4616189618054758400 4613937818241073152 4616189618054758400 true true (by decide +kernel) (by decide +kernel)
  have hgt1 := fun W => run_fgt W 38 4586656397421424955 0 true (by decide +kernel)
  have hgt2 := fun W => run_fgt W 38 4588821589549968463 0 true (by decide +kernel)
  go_enter Try.func21, Try.ntmps21
  go_wp2_with fail
  refine (new_ok 0 0 (by decide) (by decide) (by decide +kernel) _).mono ?_
  rintro e w1 ⟨g, r, rfl, hch, hg, hr, hb⟩
  have HC := Lib.hid hch
  have HW := Lib.hid hb
  clear hch hb
  go_wp2_with fail
  refine (hear_of g r 0 0 4613937818241073152 4616189618054758400 0 0 0 1 #[] ent 2 5 w w1 HC.out HW.out hg hr (by decide) (by decide) (by decide) (by decide) (by decide +kernel) (by decide) (by decide) (fun W hW => run_put_new W r 0 #[] 2 _ hW nofound) trip5).mono ?_
  rintro e w2 ⟨rfl, hch, hb⟩
  have HC2 := Lib.hid hch
  have HW2 := Lib.hid hb
  clear hch hb HC HW
  go_wp2_with fail
  refine (own_of g r 0 0 1 ent _ HC2.out).mono ?_
  rintro e w' ⟨rfl, rfl⟩
  go_wp2_with fail
  refine (hear_of g r 0 0 4613937818241073152 4616189618054758400 4586656397421424955 4588821589549968463 1 1 ent ent 2 0 w w2 HC2.out HW2.out hg hr (by decide) (by decide) (by decide) (by decide) (by decide +kernel) (by decide) (by decide) (fun W hW => run_put_old W r 1 0 ent 2 _ _ hW found2 ⟨0, rfl⟩) trip0).mono ?_
  rintro e w3 ⟨rfl, hch, hb⟩
  have HC3 := Lib.hid hch
  have HW3 := Lib.hid hb
  clear hch hb HC2 HW2
  go_wp2_with fail
  refine (of_of g r _ _ 1 0 _ _ ent 2 _ HC3.out found2).mono ?_
  rintro e w' ⟨rfl, rfl⟩
  go_wp2_with fail
  have hba : Below w3.heap.size w3 (w3.alloc (Obj.cells #[.int .i64 3, .int .i64 2] 3)) := (Below.refl _ _).alloc (Nat.le_refl _) _
  refine (near_of g r _ _ 1 0 _ _ 2 (some ⟨w3.heap.size, 0, none⟩) ent _ (HC3.out.below hba) (lit_C64 w3 [3, 2] (by decide)) found2 found3).mono ?_
  rintro e w4 ⟨h, cap, rfl, h0, h1, hb⟩
  have hb4 : Below w3.heap.size w3 w4 := hba.trans (hb.mono (by simp))
  have HC4 := Lib.hid (HC3.out.below hb4)
  have HW4 := Lib.hid (HW3.out.trans (hb4.mono HW3.out.size))
  clear hba hb hb4 HC3 HW3
  go_wp2_with (go_at_call 24; refine (own_of g r _ _ 1 ent _ HC4.out).mono ?_; rintro e w' ⟨rfl, rfl⟩)
  go_ret
  exact ⟨ret_bool (by simp), HW4.out⟩
end Go.Proofs.Ytnkkgofpifhoeaa.Ch
