/- What the program's functions on numbers answer: a float is finite, a complex number may be. For all floats. -/
import Derived.Test.YtnkkgofpifhoeaaProg
import Derived.Test.YtnkkgofpifhoeaaFlt
import Derived.Test.YtnkkgofpifhoeaaBase
import Derived.WalkKit
import Derived.WalkLawsBesides
import Derived.Below
import Derived.KernelRfl
import Derived.Deep.Draws
import Derived.Deep.QuietTactic
import Derived.BigQuiet
import Derived.Outline
namespace Go.Proofs.Ytnkkgofpifhoeaa.Num
open Go.RowKit Go.Proofs.Ytnkkgofpifhoeaa.Flt Go.Proofs.Ytnkkgofpifhoeaa.Base

section
variable {P : Program}
theorem run_feq (w : World) (t : TypeId) (x y : Nat) : (binOp .eql t (.float .f64 x) (.float .f64 y)).run P w = .ok (.bool (Ieee.double.order x y == some .eq)) w := by
  simp [binOp, Op.floatCmp, FloatKind.format]
theorem run_flt (w : World) (t : TypeId) (x y : Nat) : (binOp .lss t (.float .f64 x) (.float .f64 y)).run P w = .ok (.bool (Ieee.double.order x y == some .lt)) w := by
  simp [binOp, Op.floatCmp, FloatKind.format]
theorem run_fge (w : World) (t : TypeId) (x y : Nat) : (binOp .geq t (.float .f64 x) (.float .f64 y)).run P w = .ok (.bool (Ieee.double.order x y == some .gt || Ieee.double.order x y == some .eq)) w := by
  simp [binOp, Op.floatCmp, FloatKind.format]
theorem run_fle (w : World) (t : TypeId) (x y : Nat) : (binOp .leq t (.float .f64 x) (.float .f64 y)).run P w = .ok (.bool (Ieee.double.order x y == some .lt || Ieee.double.order x y == some .eq)) w := by
  simp [binOp, Op.floatCmp, FloatKind.format]
theorem run_fsub (w : World) (t : TypeId) (x y r : Nat) (h : Ieee.double.sub x y = some r) : (binOp .sub t (.float .f64 x) (.float .f64 y)).run P w = .ok (.float .f64 r) w := by
  simp [binOp, Op.floatArith, FloatKind.format, h]
theorem run_fdiv (w : World) (t : TypeId) (x y r : Nat) (h : Ieee.double.div x y = some r) : (binOp .quo t (.float .f64 x) (.float .f64 y)).run P w = .ok (.float .f64 r) w := by
  simp [binOp, Op.floatArith, FloatKind.format, h]
theorem nan_cut (x y t : Nat) : nul (Question.cut (.nanBits .f64 x y) t) = false := by
  unfold nul
  rw [beq_eq_false_iff_ne]
  show ((t % 2) * 2 ^ 63 + 0x7ff0000000000000 + 1 + (t / 2) % (2 ^ 52 - 1)) % 9223372036854775808 ≠ 0
  have h1 := Nat.mod_lt (t / 2) (show 0 < 2 ^ 52 - 1 by decide)
  have h2 := Nat.mod_lt t (show 0 < 2 by decide)
  generalize t % 2 = a at h2 ⊢
  generalize t / 2 % (2 ^ 52 - 1) = b at h1 ⊢
  omega
theorem run_fsub_nan (w : World) (t : TypeId) (x y : Nat) (h : Ieee.double.sub x y = none) : ∃ r, nul r = false ∧ (binOp .sub t (.float .f64 x) (.float .f64 y)).run P w = .ok (.float .f64 r) w.drew := by
  obtain ⟨q, hq⟩ : ∃ q, q = Question.nanBits .f64 x y := ⟨_, rfl⟩
  refine ⟨q.cut (w.tape w.drawn q), by rw [hq]; exact nan_cut _ _ _, ?_⟩
  simp [binOp, Op.floatArith, FloatKind.format, h]
  rw [← hq]
  have hf : q.forced = false := by rw [hq]; rfl
  simp [hf]
end

/-- finite: neither an infinity nor a NaN; a NaN's difference draws. -/
theorem fzero (x : Nat) : (FloatKind.f64.format.order x 0 == some Ordering.eq) = nul x := zero_is x
theorem finite_no (x : Nat) (h : fin x = false) (w : World) : Calls Try.prog 122 #[.float .f64 x] w fun e w' => e = .returned (.bool false) ∧ ∃ n, w' = w.drewN n := by
  obtain ⟨r, hr, hs⟩ := run_fsub_nan (P := Try.prog) w 38 x x (sub_self_not x h)
  go_enter Try.func122, Try.ntmps122
  go_wp2
  go_ret
  exact ⟨ret_bool (by rw [fzero, hr]), 1, rfl⟩
theorem finite_yes (x : Nat) (h : fin x = true) (w : World) : Calls Try.prog 122 #[.float .f64 x] w fun e w' => e = .returned (.bool true) ∧ ∃ n, w' = w.drewN n := by
  have hs := run_fsub (P := Try.prog) w 38 x x 0 (sub_self_fin x h)
  go_enter Try.func122, Try.ntmps122
  go_wp2
  go_ret
  exact ⟨ret_bool (by rw [fzero]; rfl), 0, rfl⟩
def placeB (p q : Nat) : Bool := fin p && fin q && !(neg0 p) && !(neg0 q)
theorem right_p (p q : Nat) (w : World) (h : fin p = false) :
    Calls Try.prog 99 #[.agg #[.int .i64 2, .int .i64 0, .complex .f64 p q, .string ⟨#[]⟩, .int .i64 0, .int .u32 0, .int .u64 0, .slice none 0 0, .slice none 0 0]] w fun e w' => e = .returned (.bool false) ∧ Below w.heap.size w w' := by
  go_enter Try.func99, Try.ntmps99
  go_wp2_with fail
  go_quiet (fail)
  go_wp2_with fail
  refine (finite_no p h _).mono ?_
  rintro e w' ⟨rfl, n0, rfl⟩
  go_wp2_with fail
  go_ret
  exact ⟨rfl, bl_drewN ((Below.refl _ _).alloc (Nat.le_refl _) _) _⟩
theorem right_q (p q : Nat) (w : World) (h : fin p = true) (h2 : fin q = false) :
    Calls Try.prog 99 #[.agg #[.int .i64 2, .int .i64 0, .complex .f64 p q, .string ⟨#[]⟩, .int .i64 0, .int .u32 0, .int .u64 0, .slice none 0 0, .slice none 0 0]] w fun e w' => e = .returned (.bool false) ∧ Below w.heap.size w w' := by
  go_enter Try.func99, Try.ntmps99
  go_wp2_with fail
  go_quiet (fail)
  go_wp2_with fail
  refine (finite_yes p h _).mono ?_
  rintro e w' ⟨rfl, n0, rfl⟩
  go_wp2_with fail
  refine (finite_no q h2 _).mono ?_
  rintro e w' ⟨rfl, n1, rfl⟩
  go_wp2_with fail
  go_ret
  exact ⟨rfl, bl_drewN ((Below.refl _ _).alloc (Nat.le_refl _) _) _⟩
theorem right_AA (p : Nat) (q : Nat) (w : World) (f1 : fin p = true) (hp : nul p = false) (f2 : fin q = true) (hq : nul q = false) :
    Calls Try.prog 99 #[.agg #[.int .i64 2, .int .i64 0, .complex .f64 p q, .string ⟨#[]⟩, .int .i64 0, .int .u32 0, .int .u64 0, .slice none 0 0, .slice none 0 0]] w fun e w' => e = .returned (.bool true) ∧ Below w.heap.size w w' := by
  have ep : (FloatKind.f64.format.order p 0 == some Ordering.eq) = false := by rw [fzero, hp]
  have eq : (FloatKind.f64.format.order q 0 == some Ordering.eq) = false := by rw [fzero, hq]
  go_enter Try.func99, Try.ntmps99
  go_wp2_with fail
  go_quiet (fail)
  go_wp2_with fail
  refine (finite_yes p f1 _).mono ?_
  rintro e w' ⟨rfl, n0, rfl⟩
  go_wp2_with fail
  refine (finite_yes q f2 _).mono ?_
  rintro e w' ⟨rfl, n1, rfl⟩
  go_wp2_with fail
  go_ret
  exact ⟨rfl, bl_drewN ((Below.refl _ _).alloc (Nat.le_refl _) _) _⟩
theorem right_AB (p : Nat) (w : World) (f1 : fin p = true) (hp : nul p = false) :
    Calls Try.prog 99 #[.agg #[.int .i64 2, .int .i64 0, .complex .f64 p 0, .string ⟨#[]⟩, .int .i64 0, .int .u32 0, .int .u64 0, .slice none 0 0, .slice none 0 0]] w fun e w' => e = .returned (.bool true) ∧ Below w.heap.size w w' := by
  have ep : (FloatKind.f64.format.order p 0 == some Ordering.eq) = false := by rw [fzero, hp]
  have eq : (FloatKind.f64.format.order 0 0 == some Ordering.eq) = true := by rw [fzero]; rfl
  have dq := fun (W : World) => run_fdiv (P := Try.prog) W 38 4607182418800017408 0 9218868437227405312 one_zero
  have lq : (FloatKind.f64.format.order 9218868437227405312 0 == some Ordering.lt) = false := inf_order
  go_enter Try.func99, Try.ntmps99
  go_wp2_with fail
  go_quiet (fail)
  go_wp2_with fail
  refine (finite_yes p f1 _).mono ?_
  rintro e w' ⟨rfl, n0, rfl⟩
  go_wp2_with fail
  refine (finite_yes 0 (by decide +kernel) _).mono ?_
  rintro e w' ⟨rfl, n1, rfl⟩
  go_wp2_with fail
  go_ret
  exact ⟨rfl, bl_drewN ((Below.refl _ _).alloc (Nat.le_refl _) _) _⟩
theorem right_AC (p : Nat) (w : World) (f1 : fin p = true) (hp : nul p = false) :
    Calls Try.prog 99 #[.agg #[.int .i64 2, .int .i64 0, .complex .f64 p 9223372036854775808, .string ⟨#[]⟩, .int .i64 0, .int .u32 0, .int .u64 0, .slice none 0 0, .slice none 0 0]] w fun e w' => e = .returned (.bool false) ∧ Below w.heap.size w w' := by
  have ep : (FloatKind.f64.format.order p 0 == some Ordering.eq) = false := by rw [fzero, hp]
  have eq : (FloatKind.f64.format.order 9223372036854775808 0 == some Ordering.eq) = true := by rw [fzero]; rfl
  have dq := fun (W : World) => run_fdiv (P := Try.prog) W 38 4607182418800017408 9223372036854775808 18442240474082181120 one_minus
  have lq : (FloatKind.f64.format.order 18442240474082181120 0 == some Ordering.lt) = true := minf_order
  go_enter Try.func99, Try.ntmps99
  go_wp2_with fail
  go_quiet (fail)
  go_wp2_with fail
  refine (finite_yes p f1 _).mono ?_
  rintro e w' ⟨rfl, n0, rfl⟩
  go_wp2_with fail
  refine (finite_yes 9223372036854775808 (by decide +kernel) _).mono ?_
  rintro e w' ⟨rfl, n1, rfl⟩
  go_wp2_with fail
  go_ret
  exact ⟨rfl, bl_drewN ((Below.refl _ _).alloc (Nat.le_refl _) _) _⟩
theorem right_BA (q : Nat) (w : World) (f2 : fin q = true) (hq : nul q = false) :
    Calls Try.prog 99 #[.agg #[.int .i64 2, .int .i64 0, .complex .f64 0 q, .string ⟨#[]⟩, .int .i64 0, .int .u32 0, .int .u64 0, .slice none 0 0, .slice none 0 0]] w fun e w' => e = .returned (.bool true) ∧ Below w.heap.size w w' := by
  have ep : (FloatKind.f64.format.order 0 0 == some Ordering.eq) = true := by rw [fzero]; rfl
  have dp := fun (W : World) => run_fdiv (P := Try.prog) W 38 4607182418800017408 0 9218868437227405312 one_zero
  have lp : (FloatKind.f64.format.order 9218868437227405312 0 == some Ordering.lt) = false := inf_order
  have eq : (FloatKind.f64.format.order q 0 == some Ordering.eq) = false := by rw [fzero, hq]
  go_enter Try.func99, Try.ntmps99
  go_wp2_with fail
  go_quiet (fail)
  go_wp2_with fail
  refine (finite_yes 0 (by decide +kernel) _).mono ?_
  rintro e w' ⟨rfl, n0, rfl⟩
  go_wp2_with fail
  refine (finite_yes q f2 _).mono ?_
  rintro e w' ⟨rfl, n1, rfl⟩
  go_wp2_with fail
  go_ret
  exact ⟨rfl, bl_drewN ((Below.refl _ _).alloc (Nat.le_refl _) _) _⟩
theorem right_BB  (w : World)  :
    Calls Try.prog 99 #[.agg #[.int .i64 2, .int .i64 0, .complex .f64 0 0, .string ⟨#[]⟩, .int .i64 0, .int .u32 0, .int .u64 0, .slice none 0 0, .slice none 0 0]] w fun e w' => e = .returned (.bool true) ∧ Below w.heap.size w w' := by
  have ep : (FloatKind.f64.format.order 0 0 == some Ordering.eq) = true := by rw [fzero]; rfl
  have dp := fun (W : World) => run_fdiv (P := Try.prog) W 38 4607182418800017408 0 9218868437227405312 one_zero
  have lp : (FloatKind.f64.format.order 9218868437227405312 0 == some Ordering.lt) = false := inf_order
  have eq : (FloatKind.f64.format.order 0 0 == some Ordering.eq) = true := by rw [fzero]; rfl
  have dq := fun (W : World) => run_fdiv (P := Try.prog) W 38 4607182418800017408 0 9218868437227405312 one_zero
  have lq : (FloatKind.f64.format.order 9218868437227405312 0 == some Ordering.lt) = false := inf_order
  go_enter Try.func99, Try.ntmps99
  go_wp2_with fail
  go_quiet (fail)
  go_wp2_with fail
  refine (finite_yes 0 (by decide +kernel) _).mono ?_
  rintro e w' ⟨rfl, n0, rfl⟩
  go_wp2_with fail
  refine (finite_yes 0 (by decide +kernel) _).mono ?_
  rintro e w' ⟨rfl, n1, rfl⟩
  go_wp2_with fail
  go_ret
  exact ⟨rfl, bl_drewN ((Below.refl _ _).alloc (Nat.le_refl _) _) _⟩
theorem right_BC  (w : World)  :
    Calls Try.prog 99 #[.agg #[.int .i64 2, .int .i64 0, .complex .f64 0 9223372036854775808, .string ⟨#[]⟩, .int .i64 0, .int .u32 0, .int .u64 0, .slice none 0 0, .slice none 0 0]] w fun e w' => e = .returned (.bool false) ∧ Below w.heap.size w w' := by
  have ep : (FloatKind.f64.format.order 0 0 == some Ordering.eq) = true := by rw [fzero]; rfl
  have dp := fun (W : World) => run_fdiv (P := Try.prog) W 38 4607182418800017408 0 9218868437227405312 one_zero
  have lp : (FloatKind.f64.format.order 9218868437227405312 0 == some Ordering.lt) = false := inf_order
  have eq : (FloatKind.f64.format.order 9223372036854775808 0 == some Ordering.eq) = true := by rw [fzero]; rfl
  have dq := fun (W : World) => run_fdiv (P := Try.prog) W 38 4607182418800017408 9223372036854775808 18442240474082181120 one_minus
  have lq : (FloatKind.f64.format.order 18442240474082181120 0 == some Ordering.lt) = true := minf_order
  go_enter Try.func99, Try.ntmps99
  go_wp2_with fail
  go_quiet (fail)
  go_wp2_with fail
  refine (finite_yes 0 (by decide +kernel) _).mono ?_
  rintro e w' ⟨rfl, n0, rfl⟩
  go_wp2_with fail
  refine (finite_yes 9223372036854775808 (by decide +kernel) _).mono ?_
  rintro e w' ⟨rfl, n1, rfl⟩
  go_wp2_with fail
  go_ret
  exact ⟨rfl, bl_drewN ((Below.refl _ _).alloc (Nat.le_refl _) _) _⟩
theorem right_C (q : Nat) (w : World) (h2 : fin q = true) :
    Calls Try.prog 99 #[.agg #[.int .i64 2, .int .i64 0, .complex .f64 9223372036854775808 q, .string ⟨#[]⟩, .int .i64 0, .int .u32 0, .int .u64 0, .slice none 0 0, .slice none 0 0]] w fun e w' => e = .returned (.bool false) ∧ Below w.heap.size w w' := by
  have ep : (FloatKind.f64.format.order 9223372036854775808 0 == some Ordering.eq) = true := by rw [fzero]; rfl
  have dp := fun (W : World) => run_fdiv (P := Try.prog) W 38 4607182418800017408 9223372036854775808 18442240474082181120 one_minus
  have lp : (FloatKind.f64.format.order 18442240474082181120 0 == some Ordering.lt) = true := minf_order
  go_enter Try.func99, Try.ntmps99
  go_wp2_with fail
  go_quiet (fail)
  go_wp2_with fail
  refine (finite_yes 9223372036854775808 (by decide +kernel) _).mono ?_
  rintro e w' ⟨rfl, n0, rfl⟩
  go_wp2_with fail
  refine (finite_yes q h2 _).mono ?_
  rintro e w' ⟨rfl, n1, rfl⟩
  go_wp2_with fail
  go_ret
  exact ⟨rfl, bl_drewN ((Below.refl _ _).alloc (Nat.le_refl _) _) _⟩
theorem right_any (p q : Nat) (hp : p < 18446744073709551616) (hq : q < 18446744073709551616) (w : World) :
    Calls Try.prog 99 #[.agg #[.int .i64 2, .int .i64 0, .complex .f64 p q, .string ⟨#[]⟩, .int .i64 0, .int .u32 0, .int .u64 0, .slice none 0 0, .slice none 0 0]] w fun e w' => e = .returned (.bool (placeB p q)) ∧ Below w.heap.size w w' := by
  have neg_of : ∀ x, nul x = false → neg0 x = false := by
    intro x h
    unfold nul at h
    unfold neg0
    rw [beq_eq_false_iff_ne] at h ⊢
    omega
  unfold placeB
  cases h1 : fin p
  · exact right_p p q w h1
  cases h2 : fin q
  · exact right_q p q w h1 h2
  cases h3 : nul p
  · rw [neg_of p h3]
    cases h4 : nul q
    · rw [neg_of q h4]
      exact right_AA p q w h1 h3 h2 h4
    · rcases nul_cases q hq h4 with rfl | rfl
      · exact right_AB p w h1 h3
      · exact right_AC p w h1 h3
  · rcases nul_cases p hp h3 with rfl | rfl
    · cases h4 : nul q
      · rw [neg_of q h4]
        exact right_BA q w h2 h4
      · rcases nul_cases q hq h4 with rfl | rfl
        · exact right_BB w
        · exact right_BC w
    · have : neg0 9223372036854775808 = true := rfl
      rw [this]
      simpa using right_C q w h2
end Go.Proofs.Ytnkkgofpifhoeaa.Num
