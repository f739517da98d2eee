/- What the document's own functions on numbers answer: finite, minus zero, a complex number that may be; for all of them. -/
import Derived.Test.YtnkkgofpifhoeaaRef
namespace Go.Proofs.Ytnkkgofpifhoeaa.Pk
open Go.RowKit Go.Proofs.Ytnkkgofpifhoeaa.Flt Go.Proofs.Ytnkkgofpifhoeaa.Base Go.Proofs.Ytnkkgofpifhoeaa.Num Go.Proofs.YtnkkgofpifhoeaaW.PrintWords Go.Proofs.YtnkkgofpifhoeaaW.PrintLast
set_option linter.unusedSimpArgs false
set_option linter.unusedVariables false
theorem within_b (x : Nat) : ((FloatKind.f64.format.order x 18442240474082181119 == some Ordering.gt || FloatKind.f64.format.order x 18442240474082181119 == some Ordering.eq) && (FloatKind.f64.format.order x 9218868437227405311 == some Ordering.lt || FloatKind.f64.format.order x 9218868437227405311 == some Ordering.eq)) = fin x := within_is x
set_option maxHeartbeats 4000000 in
theorem fin_is (x : Nat) (b : Bool) (h : fin x = b) (w : World) : Calls Try.prog 137 #[.float .f64 x] w fun e w' => e = .returned (.bool b) ∧ w = w' := by
  have HB := Lib.hid (within_b x)
  have H := Lib.hid h
  clear h
  go_enter Try.func137, Try.ntmps137
  go_wp2
  all_goals
    go_ret
    refine ⟨ret_bool ?_, rfl⟩
    first | exact HB.out.trans H.out | (rw [← H.out, ← HB.out]; simp_all)
theorem minus_no (x : Nat) (h : nul x = false) (w : World) : Calls Try.prog 138 #[.float .f64 x] w fun e w' => e = .returned (.bool false) ∧ w = w' := by
  have he : (FloatKind.f64.format.order x 0 == some Ordering.eq) = false := by rw [fzero, h]
  clear h
  go_enter Try.func138, Try.ntmps138
  go_wp2
  go_ret
  exact ⟨rfl, rfl⟩
theorem minus_0 (w : World) : Calls Try.prog 138 #[.float .f64 0] w fun e w' => e = .returned (.bool false) ∧ w = w' := by
  have he : (FloatKind.f64.format.order 0 0 == some Ordering.eq) = true := by rw [fzero]; rfl
  have hd := fun (W : World) => run_fdiv (P := Try.prog) W 38 4607182418800017408 0 9218868437227405312 one_zero
  have hl : (FloatKind.f64.format.order 9218868437227405312 0 == some Ordering.lt) = false := inf_order
  go_enter Try.func138, Try.ntmps138
  go_wp2
  go_ret
  exact ⟨rfl, rfl⟩
theorem minus_1 (w : World) : Calls Try.prog 138 #[.float .f64 9223372036854775808] w fun e w' => e = .returned (.bool true) ∧ w = w' := by
  have he : (FloatKind.f64.format.order 9223372036854775808 0 == some Ordering.eq) = true := by rw [fzero]; rfl
  have hd := fun (W : World) => run_fdiv (P := Try.prog) W 38 4607182418800017408 9223372036854775808 18442240474082181120 one_minus
  have hl : (FloatKind.f64.format.order 18442240474082181120 0 == some Ordering.lt) = true := minf_order
  go_enter Try.func138, Try.ntmps138
  go_wp2
  go_ret
  exact ⟨rfl, rfl⟩
theorem minus_is (x : Nat) (b : Bool) (hx : x < 18446744073709551616) (h : neg0 x = b) (w : World) : Calls Try.prog 138 #[.float .f64 x] w fun e w' => e = .returned (.bool b) ∧ w = w' := by
  subst h
  cases hn : nul x
  · have : neg0 x = false := by
      unfold nul at hn
      unfold neg0
      rw [beq_eq_false_iff_ne] at hn ⊢
      omega
    rw [this]
    exact minus_no x hn w
  · rcases nul_cases x hx hn with rfl | rfl
    · exact minus_0 w
    · exact minus_1 w
def term2 (p q : Nat) : Value := .agg #[.int .i64 2, .int .i64 0, .complex .f64 p q, .string ⟨#[]⟩, .int .i64 0, .int .u32 0, .int .u64 0, .slice none 0 0, .slice none 0 0]
set_option maxHeartbeats 4000000 in
theorem bare_2 (p q : Nat) (w : World) : Calls Try.prog 135 #[.agg #[.int .i64 2, .int .i64 0, .complex .f64 p q, .string ⟨#[]⟩, .int .i64 0, .int .u32 0, .int .u64 0, .slice none 0 0, .slice none 0 0]] w fun e w' => e = .returned (.bool true) ∧ Below w.heap.size w w' := by
  go_enter Try.func135, Try.ntmps135
  go_wp2
  go_ret
  exact ⟨rfl, (Below.refl _ _).alloc (Nat.le_refl _) _⟩
theorem fin_neg0 : fin 9223372036854775808 = true := by decide
set_option maxRecDepth 100000 in
set_option maxHeartbeats 4000000 in
theorem right2_any (p q : Nat) (hp : p < 18446744073709551616) (hq : q < 18446744073709551616) (w : World) :
    Calls Try.prog 121 #[.agg #[.int .i64 2, .int .i64 0, .complex .f64 p q, .string ⟨#[]⟩, .int .i64 0, .int .u32 0, .int .u64 0, .slice none 0 0, .slice none 0 0]] w fun e w' => e = .returned (.bool (placeB p q)) ∧ Below w.heap.size w w' := by
  cases h1 : fin p <;> cases h2 : fin q <;> cases h3 : neg0 p <;> cases h4 : neg0 q
  all_goals
    have H : RowKit.Hid (placeB p q = (fin p && fin q && !(neg0 p) && !(neg0 q))) := Lib.hid rfl
    have H0 := H.out
    rw [h1, h2, h3, h4] at H0
    have HH := Lib.hid H0
    clear H H0
    have H1 := Lib.hid h1
    have H2 := Lib.hid h2
    have H3 := Lib.hid h3
    have H4 := Lib.hid h4
    have HP := Lib.hid hp
    have HQ := Lib.hid hq
    clear h1 h2 h3 h4
    go_enter Try.func121, Try.ntmps121
    go_wp2_with (first | (go_at_call 135; refine (bare_2 p q _).mono ?_; rintro e w' ⟨rfl, hb⟩; have hz := hb.size; simp at hz; obtain ⟨hc, hf⟩ := bcell hb) | (go_at_call 137; (first | with_reducible refine (fin_is p _ H1.out _).mono ?_ | with_reducible refine (fin_is q _ H2.out _).mono ?_); rintro e w' ⟨rfl, rfl⟩) | (go_at_call 138; (first | with_reducible refine (minus_is p _ HP.out H3.out _).mono ?_ | with_reducible refine (minus_is q _ HQ.out H4.out _).mono ?_); rintro e w' ⟨rfl, rfl⟩))
    go_ret
    refine ⟨ret_bool ?_, ?_⟩
    · rw [HH.out]
      first | rfl | simp
    · repeat (first | refine Below.alloc ?_ (by simp <;> omega) _ | exact Below.refl _ _ | refine Below.trans ?_ (Below.mono (by assumption) (by simp <;> omega)))
end Go.Proofs.Ytnkkgofpifhoeaa.Pk
