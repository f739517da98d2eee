/- The law ChartStays, walked: it answers true at all four numbers. -/
import Derived.Test.YtnkkgofpifhoeaaAl13
namespace Go.Proofs.Ytnkkgofpifhoeaa.Ch
open Go.RowKit Go.Proofs.Ytnkkgofpifhoeaa.Flt Go.Proofs.Ytnkkgofpifhoeaa.Base Go.Proofs.Ytnkkgofpifhoeaa.Num Go.Proofs.Ytnkkgofpifhoeaa.Steps Go.Proofs.YtnkkgofpifhoeaaW.PrintWords Go.Proofs.YtnkkgofpifhoeaaW.PrintLast
set_option linter.unusedSimpArgs false
set_option linter.unusedVariables false
theorem order_self' (x : Nat) (h : fin x = true) : (FloatKind.f64.format.order x x == some Ordering.eq) = true := by
  show (Ieee.double.order x x == some Ordering.eq) = true
  unfold Ieee.Format.order
  have h' := of_decide_eq_true h
  cases hr : Ieee.double.read x with
  | number s m i =>
    simp only [Ieee.Datum.order]
    rw [cmp_eq]
    simp
  | infinity s =>
    have := read_is x
    rw [hr] at this
    cases this
    omega
  | nan s q =>
    have := read_is x
    rw [hr] at this
    cases this
    omega
theorem triple (a b P Q : Int) : (a * a + b * b) * (a * a + b * b) = sqd P Q (P + 2 * a * b) (Q + (a * a - b * b)) := by
  unfold sqd
  grind
set_option maxRecDepth 100000 in
set_option maxHeartbeats 4000000 in
theorem cs_out (p q a b : Int) (h : a < 0 ∨ 512 < a ∨ b < 0 ∨ 512 < b) (w : World) : Calls Try.prog 5 #[.int .i32 p, .int .i32 q, .int .i32 a, .int .i32 b] w fun e w' => e = .returned (.bool true) ∧ Below w.heap.size w w' := by
  rcases h with h | h | h | h
  all_goals
    go_enter Try.func5, Try.ntmps5
    go_wp2_with fail
    refine (alive13 _).mono ?_
    rintro e w1 ⟨rfl, hb⟩
    have HB := Lib.hid hb
    clear hb
    by_cases k1 : a < 0 <;> by_cases k2 : 512 < a <;> by_cases k3 : b < 0 <;> by_cases k4 : 512 < b
    all_goals first
    | (exfalso; omega)
    | (go_wp2_with fail
       go_ret
       exact ⟨rfl, HB.out⟩)
theorem tmod_le (p : Int) : (p.tmod 1000).natAbs ≤ 1000 := by
  rw [Int.natAbs_tmod]
  have := Nat.mod_lt p.natAbs (show 0 < (1000 : Int).natAbs by decide)
  have e : (1000 : Int).natAbs = 1000 := rfl
  omega
theorem tmod_small (p : Int) : small (p.tmod 1000) := by
  have := tmod_le p
  unfold small
  omega
set_option maxRecDepth 100000 in
set_option maxHeartbeats 4000000 in
theorem cs_in (p q a b : Int) (h1 : 0 ≤ a) (h2 : a ≤ 512) (h3 : 0 ≤ b) (h4 : b ≤ 512) (w : World) : Calls Try.prog 5 #[.int .i32 p, .int .i32 q, .int .i32 a, .int .i32 b] w fun e w' => e = .returned (.bool true) ∧ Below w.heap.size w w' := by
  have hcv := run_cvt32
  have hcv3 := run_cvt
  have ha0 : 0 ≤ a * a := Int.mul_nonneg h1 h1
  have hb0 : 0 ≤ b * b := Int.mul_nonneg h3 h3
  have ha1 : a * a ≤ 262144 := Int.mul_le_mul h2 h2 h1 (by decide)
  have hb1 : b * b ≤ 262144 := Int.mul_le_mul h4 h4 h3 (by decide)
  have hx0 : 0 ≤ 2 * a * b := Int.mul_nonneg (by omega) h3
  have hx1 : 2 * a * b ≤ 524288 := Int.mul_le_mul (show 2 * a ≤ 1024 by omega) h4 h3 (by decide)
  go_enter Try.func5, Try.ntmps5
  go_wp2_with fail
  refine (alive13 _).mono ?_
  rintro e w1 ⟨rfl, hb⟩
  have HB := Lib.hid hb
  clear hb
  go_wp2_with fail
  have hPs : small (p.tmod 1000) := tmod_small p
  have hQs : small (q.tmod 1000) := tmod_small q
  have he := triple a b (p.tmod 1000) (q.tmod 1000)
  have hx2 : small (2 * a * b) := by unfold small; omega
  have hy2 : (a * a - b * b).natAbs ≤ 524288 := by omega
  have hxx : (2 * a * b).natAbs ≤ 524288 := by omega
  have ht0 : 0 ≤ a * a + b * b := by omega
  have ht1 : a * a + b * b ≤ 524288 := by omega
  have hPb : (p.tmod 1000).natAbs ≤ 1000 := tmod_le p
  have hQb : (q.tmod 1000).natAbs ≤ 1000 := tmod_le q
  clear ha0 hb0 ha1 hb1 hx0 hx1
  generalize p.tmod 1000 = P at *
  generalize q.tmod 1000 = Q at *
  generalize 2 * a * b = x at *
  generalize a * a - b * b = y at *
  generalize a * a + b * b = tr at *
  have hz1 : small (P + x) := by unfold small; omega
  have hz2 : small (Q + y) := by unfold small; omega
  have hfP := F_fin P (by unfold small at hPs; omega)
  have hfQ := F_fin Q (by unfold small at hQs; omega)
  have hf1 := F_fin (P + x) (by unfold small at hz1; omega)
  have hf2 := F_fin (Q + y) (by unfold small at hz2; omega)
  have q1 := fun W => run_fadd (P := Try.prog) W 38 (F P) (F x) _ (F_add P x (by omega) (by omega) (by omega))
  have q2 := fun W => run_fadd (P := Try.prog) W 38 (F Q) (F y) _ (F_add Q y (by omega) (by omega) (by omega))
  have heq := fun W => run_ceq W 25 (F P) (F Q) (F P) (F Q) true true (order_self' _ hfP.1) (order_self' _ hfQ.1)
  have HE := Lib.hid he
  have HFP := Lib.hid hfP
  have HFQ := Lib.hid hfQ
  have HF1 := Lib.hid hf1
  have HF2 := Lib.hid hf2
  have HS := Lib.hid (square_F P Q P Q hPs hQs hPs hQs)
  have hself : F (sqd P Q P Q) = 0 := by
    have : sqd P Q P Q = 0 := by unfold sqd; rw [Int.sub_self, Int.sub_self]; rfl
    rw [this, F_zero]
  have HSF := Lib.hid hself
  clear he hfP hfQ hf1 hf2 hself
  refine (new_ok (F P) (F Q) HFP.out.2.2 HFQ.out.2.2 (place_F P Q hPs hQs) _).mono ?_
  rintro e w2 ⟨g, r, rfl, hch, hg, hr, hb⟩
  have HC := Lib.hid hch
  have HW := Lib.hid (HB.out.trans (hb.mono HB.out.size))
  have hg' : w.heap.size ≤ g := Nat.le_trans HB.out.size hg
  have hr' : w.heap.size ≤ r := Nat.le_trans HB.out.size hr
  clear hch hb
  go_wp2_with fail
  refine (hear_of g r (F P) (F Q) (F (P + x)) (F (Q + y)) (F P) (F Q) 0 1 #[] _ 7 tr w w2 HC.out HW.out hg' hr' (by decide) (by decide) HF1.out.2.2 HF2.out.2.2 (place_F _ _ hz1 hz2) ht0 (by omega) (fun W hW => run_put_new W r 0 #[] 7 _ hW (by kernel_rfl)) (moved_F P Q (P + x) (Q + y) tr hPs hQs hz1 hz2 (by omega) HE.out)).mono ?_
  rintro e w3 ⟨rfl, hch, hb⟩
  have HC3 := Lib.hid hch
  have HW3 := Lib.hid hb
  clear hch hb HC HW
  go_wp2_with fail
  refine (hear_of g r (F P) (F Q) (F P) (F Q) (F P) (F Q) 1 2 _ _ 8 a w w3 HC3.out HW3.out hg' hr' (by decide) (by decide) HFP.out.2.2 HFQ.out.2.2 (place_F _ _ hPs hQs) h1 (by omega) (fun W hW => run_put_new W r 1 _ 8 _ hW (by kernel_rfl)) (fun W => moved_same _ _ _ _ _ a HS.out (by rw [HSF.out]; rfl) W)).mono ?_
  rintro e w4 ⟨rfl, hch, hb⟩
  have HC4 := Lib.hid hch
  have HW4 := Lib.hid hb
  clear hch hb HC3 HW3
  go_wp2_with (go_at_call 24; refine (own_of g r _ _ 2 _ _ HC4.out).mono ?_; rintro e w' ⟨rfl, rfl⟩)
  go_ret
  exact ⟨ret_bool (by simp), HW4.out⟩
theorem cs_walk (p q a b : Int) (w : World) : Calls Try.prog 5 #[.int .i32 p, .int .i32 q, .int .i32 a, .int .i32 b] w fun e w' => e = .returned (.bool true) ∧ Below w.heap.size w w' := by
  by_cases h : a < 0 ∨ 512 < a ∨ b < 0 ∨ 512 < b
  · exact cs_out p q a b h w
  · exact cs_in p q a b (by omega) (by omega) (by omega) (by omega) w
end Go.Proofs.Ytnkkgofpifhoeaa.Ch
