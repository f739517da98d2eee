/- A chart's numbers: the square of a distance, a number made, the place behind a round trip that fits. For all whole numbers within bounds. -/
import Derived.Test.YtnkkgofpifhoeaaNum
import Derived.Test.YtnkkgofpifhoeaaFl
import Derived.Test.YtnkkgofpifhoeaaSteps
import Derived.Lib.Hide
namespace Go.Proofs.Ytnkkgofpifhoeaa.Ch
open Go.RowKit Go.Proofs.Ytnkkgofpifhoeaa.Flt Go.Proofs.Ytnkkgofpifhoeaa.Base Go.Proofs.Ytnkkgofpifhoeaa.Num Go.Proofs.Ytnkkgofpifhoeaa.Steps Go.Proofs.YtnkkgofpifhoeaaW.PrintWords Go.Proofs.YtnkkgofpifhoeaaW.PrintLast
set_option linter.unusedSimpArgs false
set_option linter.unusedVariables false
section
variable {P : Program}
theorem run_fadd (w : World) (t : TypeId) (x y r : Nat) (h : Ieee.double.add x y = some r) : (binOp .add t (.float .f64 x) (.float .f64 y)).run P w = .ok (.float .f64 r) w := by
  simp [binOp, Op.floatArith, FloatKind.format, h]
theorem run_fmul (w : World) (t : TypeId) (x y r : Nat) (h : Ieee.double.mul x y = some r) : (binOp .mul t (.float .f64 x) (.float .f64 y)).run P w = .ok (.float .f64 r) w := by
  simp [binOp, Op.floatArith, FloatKind.format, h]
theorem run_csub (w : World) (t : TypeId) (x y u v r s : Nat) (h : Ieee.double.sub x u = some r) (h' : Ieee.double.sub y v = some s) : (binOp .sub t (.complex .f64 x y) (.complex .f64 u v)).run P w = .ok (.complex .f64 r s) w := by
  simp [binOp, Op.complexOp, Op.Complex.arith, Op.floatArith, FloatKind.format, h, h']
end
theorem run_cvt (n : Int) (w : World) : (convert 3 38 (.int .i64 n)).run Try.prog w = .ok (.float .f64 (F n)) w := by
  have h1 := Try.underlying3
  have h2 := Try.underlying38
  simp [convert, h1, h2]
  rfl
theorem run_cvt32 (n : Int) (w : World) : (convert 21 38 (.int .i32 n)).run Try.prog w = .ok (.float .f64 (F n)) w := by
  have h1 := Try.underlying21
  have h2 := Try.underlying38
  simp [convert, h1, h2]
  rfl
theorem sq_bd (x : Int) (h : x.natAbs ≤ 8388608) : (x * x).natAbs ≤ 70368744177664 := by
  rw [Int.natAbs_mul]
  exact Nat.mul_le_mul h h
def small (x : Int) : Prop := x.natAbs ≤ 4194304
def sqd (a b c d : Int) : Int := (a - c) * (a - c) + (b - d) * (b - d)
theorem square_of (x y u v p q m n s : Nat) (h1 : Ieee.double.sub x u = some p) (h2 : Ieee.double.sub y v = some q) (h3 : Ieee.double.mul p p = some m) (h4 : Ieee.double.mul q q = some n) (h5 : Ieee.double.add m n = some s) (w : World) :
    Calls Try.prog 103 #[.complex .f64 x y, .complex .f64 u v] w fun e w' => e = .returned (.float .f64 s) ∧ w = w' := by
  have k1 := fun W => run_csub (P := Try.prog) W 25 x y u v p q h1 h2
  have k3 := fun W => run_fmul (P := Try.prog) W 38 p p m h3
  have k4 := fun W => run_fmul (P := Try.prog) W 38 q q n h4
  have k5 := fun W => run_fadd (P := Try.prog) W 38 m n s h5
  clear h1 h2 h3 h4 h5
  go_enter Try.func103, Try.ntmps103
  go_wp2
  go_ret
  exact ⟨rfl, rfl⟩
theorem square_F (a b c d : Int) (ha : small a) (hb : small b) (hc : small c) (hd : small d) (w : World) :
    Calls Try.prog 103 #[.complex .f64 (F a) (F b), .complex .f64 (F c) (F d)] w fun e w' => e = .returned (.float .f64 (F (sqd a b c d))) ∧ w = w' := by
  unfold small at ha hb hc hd
  have q1 := sq_bd (a - c) (by omega)
  have q2 := sq_bd (b - d) (by omega)
  unfold sqd
  generalize hX : (a - c) * (a - c) = X at q1 ⊢
  generalize hY : (b - d) * (b - d) = Y at q2 ⊢
  refine square_of _ _ _ _ _ _ (F X) (F Y) _ (F_sub a c (by omega) (by omega) (by omega)) (F_sub b d (by omega) (by omega) (by omega)) ?_ ?_ (F_add X Y (by omega) (by omega) (by omega)) w
  · rw [← hX]
    exact F_sq (a - c) (by omega) (by rw [hX]; omega)
  · rw [← hY]
    exact F_sq (b - d) (by omega) (by rw [hY]; omega)
theorem place_is (p q : Nat) (hp : p < 18446744073709551616) (hq : q < 18446744073709551616) (w : World) : Calls Try.prog 69 #[.complex .f64 p q] w fun e w' => e = .returned (.bool (placeB p q)) ∧ Below w.heap.size w w' := by
  go_enter Try.func69, Try.ntmps69
  go_wp2_with (go_at_call 99; refine (right_any p q hp hq _).mono ?_; rintro e w' ⟨rfl, hb⟩; have HB := Lib.hid hb; clear hb)
  go_ret
  exact ⟨rfl, HB.out⟩
theorem place_F (a b : Int) (ha : small a) (hb : small b) : placeB (F a) (F b) = true := by
  unfold small at ha hb
  have h1 := F_fin a (by omega)
  have h2 := F_fin b (by omega)
  unfold placeB
  rw [h1.1, h1.2.1, h2.1, h2.2.1]
  rfl
theorem clean_F (a : Int) (ha : small a) (w : World) : Calls Try.prog 126 #[.float .f64 (F a)] w fun e w' => e = .returned (.float .f64 (F a)) ∧ w = w' := by
  unfold small at ha
  have hn := F_nul a (by omega)
  by_cases h0 : a = 0
  · subst h0
    have he : (FloatKind.f64.format.order (F 0) 0 == some Ordering.eq) = true := by rw [fzero, hn]; rfl
    rw [F_zero] at he ⊢
    clear hn
    go_enter Try.func126, Try.ntmps126
    go_wp2
    go_ret
    exact ⟨rfl, rfl⟩
  · have he : (FloatKind.f64.format.order (F a) 0 == some Ordering.eq) = false := by rw [fzero, hn]; simp [h0]
    clear hn
    go_enter Try.func126, Try.ntmps126
    go_wp2
    go_ret
    exact ⟨rfl, rfl⟩
def term2 (p q : Nat) : Array Value := #[.int .i64 2, .int .i64 0, .complex .f64 p q, .string ⟨#[]⟩, .int .i64 0, .int .u32 0, .int .u64 0, .slice none 0 0, .slice none 0 0]
def Cln (p cp : Nat) : Prop := ∀ w : World, Calls Try.prog 126 #[.float .f64 p] w fun e w' => e = .returned (.float .f64 cp) ∧ w = w'
theorem bz185 (w : World) (p q : Nat) : (Instr.build 185 #[(0, .int .i64 2), (2, .complex .f64 p q)]).run Try.prog w = .ok (.agg #[.int .i64 2, .int .i64 0, .complex .f64 p q, .string ⟨#[]⟩, .int .i64 0, .int .u32 0, .int .u64 0, .slice none 0 0, .slice none 0 0]) w := by kernel_rfl
def TZ : Array Value := #[.int .i64 0, .int .i64 0, .complex .f64 0 0, .string ⟨#[]⟩, .int .i64 0, .int .u32 0, .int .u64 0, .slice none 0 0, .slice none 0 0]
theorem al185 (w : World) (v : Value) : (Instr.alloc 185 true v).run Try.prog w = .ok (.pointer (some ⟨w.heap.size, 0, none⟩)) (w.alloc (.cells #[.int .i64 0, .int .i64 0, .complex .f64 0 0, .string ⟨#[]⟩, .int .i64 0, .int .u32 0, .int .u64 0, .slice none 0 0, .slice none 0 0] 185)) := by kernel_rfl
set_option maxRecDepth 100000 in
set_option maxHeartbeats 2000000 in
theorem cx_of (p q cp cq : Nat) (hp : fin p = true) (hq : fin q = true) (c1 : Cln p cp) (c2 : Cln q cq) (w : World) :
    Calls Try.prog 105 #[.complex .f64 p q] w fun e w' => e = .returned (.tuple #[.agg (term2 cp cq), .int .i64 0]) ∧ Below w.heap.size w w' := by
  have hbz := bz185
  have hal := al185
  have H1 := Lib.hid c1
  have H2 := Lib.hid c2
  have G1 := Lib.hid hp
  have G2 := Lib.hid hq
  clear c1 c2 hp hq
  go_enter Try.func105, Try.ntmps105
  go_wp2_with fail
  refine (finite_yes p G1.out _).mono ?_
  rintro e w' ⟨rfl, n0, rfl⟩
  go_wp2_with fail
  refine (finite_yes q G2.out _).mono ?_
  rintro e w' ⟨rfl, n1, rfl⟩
  go_wp2_with fail
  refine (H1.out _).mono ?_
  rintro e w' ⟨rfl, rfl⟩
  go_wp2_with fail
  refine (H2.out _).mono ?_
  rintro e w' ⟨rfl, rfl⟩
  go_wp2_with (((with_reducible refine gate_ (.store 185 (.tmp 2) (.tmp 22)) rfl ?_); refine store_row_F rfl rfl 185 (.tmp 2) (.tmp 22) rfl w.heap.size (term2 cp cq) rfl rfl 185 _ (heap_alloc_new w _) (by kernel_rfl) rfl (by kernel_rfl) ?_; intro w5 hb5 hat5; have HB5 := Lib.hid hb5; have HAT5 := Lib.hid hat5; clear hb5 hat5))
  refine bodyPost_ret (v := .tuple #[.agg (term2 cp cq), .int .i64 0]) ?_ rfl ⟨rfl, HAT5.out.below (bl_drewN ((Below.refl _ _).alloc (Nat.le_refl _) _) _) (Nat.le_refl _)⟩
  have hl5 := run_loadVar_row (P := Try.prog) w5 w.heap.size 185 185 _ (0, 0) _ HB5.out Try.underlying185 rfl (by kernel_rfl)
  exact results_cell2 Try.results105 _ _ rfl rfl hl5
/-- Where no distance is: the place stays. -/
theorem moved_same (x y u v s : Nat) (t : Int) (hs : ∀ w : World, Calls Try.prog 103 #[.complex .f64 x y, .complex .f64 u v] w fun e w' => e = .returned (.float .f64 s) ∧ w = w') (h0 : nul s = true) (w : World) :
    Calls Try.prog 70 #[.complex .f64 x y, .complex .f64 u v, .int .i64 t] w fun e w' => e = .returned (.complex .f64 x y) ∧ Below w.heap.size w w' := by
  have HS := Lib.hid hs
  have he : (FloatKind.f64.format.order s 0 == some Ordering.eq) = true := by rw [fzero, h0]
  clear hs h0
  go_enter Try.func70, Try.ntmps70
  go_wp2_with (go_at_call 103; refine (HS.out _).mono ?_; rintro e w' ⟨rfl, rfl⟩)
  go_ret
  exact ⟨rfl, Below.refl _ _⟩
set_option maxRecDepth 100000 in
set_option maxHeartbeats 2000000 in
theorem moved_of (x y u v s wt e1 f f1 g1 gg dx dy mx my nx ny cp cq : Nat) (t : Int) (hs : ∀ w : World, Calls Try.prog 103 #[.complex .f64 x y, .complex .f64 u v] w fun e w' => e = .returned (.float .f64 s) ∧ w = w') (h0 : nul s = false)
    (k1 : Ieee.double.mul (F t) (F t) = some wt) (k2 : Ieee.double.sub wt s = some e1) (k3 : Ieee.double.add wt s = some f) (k4 : Ieee.double.add f 4607182418800017408 = some f1) (k5 : Ieee.double.div e1 f1 = some g1) (k6 : Ieee.double.div g1 4634204016564240384 = some gg)
    (k7 : Ieee.double.sub x u = some dx) (k8 : Ieee.double.sub y v = some dy) (k9 : Ieee.double.mul dx gg = some mx) (k10 : Ieee.double.mul dy gg = some my) (k11 : Ieee.double.add x mx = some nx) (k12 : Ieee.double.add y my = some ny)
    (fx : fin nx = true) (fy : fin ny = true) (c1 : Cln nx cp) (c2 : Cln ny cq) (w : World) :
    Calls Try.prog 70 #[.complex .f64 x y, .complex .f64 u v, .int .i64 t] w fun e w' => e = .returned (.complex .f64 cp cq) ∧ Below w.heap.size w w' := by
  have HS := Lib.hid hs
  have HCX := Lib.hid (cx_of nx ny cp cq fx fy c1 c2)
  have he : (FloatKind.f64.format.order s 0 == some Ordering.eq) = false := by rw [fzero, h0]
  have hal := al185
  have hcv := run_cvt t
  have q1 := fun W => run_fmul (P := Try.prog) W 38 _ _ _ k1
  have q2 := fun W => run_fsub (P := Try.prog) W 38 _ _ _ k2
  have q3 := fun W => run_fadd (P := Try.prog) W 38 _ _ _ k3
  have q4 := fun W => run_fadd (P := Try.prog) W 38 _ _ _ k4
  have q5 := fun W => run_fdiv (P := Try.prog) W 38 _ _ _ k5
  have q6 := fun W => run_fdiv (P := Try.prog) W 38 _ _ _ k6
  have q7 := fun W => run_csub (P := Try.prog) W 25 x y u v _ _ k7 k8
  have q9 := fun W => run_fmul (P := Try.prog) W 38 _ _ _ k9
  have q10 := fun W => run_fmul (P := Try.prog) W 38 _ _ _ k10
  have q11 := fun W => run_fadd (P := Try.prog) W 38 _ _ _ k11
  have q12 := fun W => run_fadd (P := Try.prog) W 38 _ _ _ k12
  clear hs h0 k1 k2 k3 k4 k5 k6 k7 k8 k9 k10 k11 k12 fx fy c1 c2
  go_enter Try.func70, Try.ntmps70
  go_wp2_with (go_at_call 103; refine (HS.out _).mono ?_; rintro e w' ⟨rfl, rfl⟩)
  refine (HCX.out _).mono ?_
  rintro e w1 ⟨rfl, hb⟩
  have HW := Lib.hid hb
  clear hb
  go_wp2_with (((with_reducible refine gate_ (.store 185 (.tmp 11) (.tmp 53)) rfl ?_); (refine store_row_F rfl rfl 185 (.tmp 11) (.tmp 53) rfl w1.heap.size (term2 cp cq) rfl rfl 185 _ (heap_alloc_new w1 _) (by kernel_rfl) rfl (by kernel_rfl) ?_); (intro w5 hb5 hat5); (have hc2 : w5.cell? ⟨w1.heap.size, 2, none⟩ = some (.complex .f64 cp cq) := (blk_cell hb5 2).trans rfl); (have HW5 := Lib.hid (HW.out.trans ((hat5.below ((Below.refl w1.heap.size w1).alloc (Nat.le_refl _) _) (Nat.le_refl _)).mono HW.out.size)); (clear hb5 hat5))))
  go_ret
  exact ⟨rfl, HW5.out⟩
/-- A round trip whose square is the distance's: the place stays. -/
theorem moved_F (a b c d t : Int) (ha : small a) (hb : small b) (hc : small c) (hd : small d) (ht : t.natAbs ≤ 1048576) (he : t * t = sqd a b c d) (w : World) :
    Calls Try.prog 70 #[.complex .f64 (F a) (F b), .complex .f64 (F c) (F d), .int .i64 t] w fun e w' => e = .returned (.complex .f64 (F a) (F b)) ∧ Below w.heap.size w w' := by
  have hq := sq_bd t (by omega)
  have hsq : t * t = 0 ∨ 0 < t * t := by
    rcases Int.lt_trichotomy t 0 with h | h | h
    · exact .inr (Int.mul_pos_of_neg_of_neg h h)
    · exact .inl (by rw [h]; rfl)
    · exact .inr (Int.mul_pos h h)
  have hS := square_F a b c d ha hb hc hd
  rw [← he] at hS
  have hn := F_nul (t * t) (by omega)
  rcases hsq with h0 | h0
  · refine moved_same _ _ _ _ _ t hS ?_ w
    rw [hn, h0]
    rfl
  · have hn' : nul (F (t * t)) = false := by
      rw [hn]
      exact decide_eq_false (by omega)
    have k1 := F_sq t (by omega) (by omega)
    have k2 := F_sub (t * t) (t * t) (by omega) (by omega) (by rw [Int.sub_self]; decide)
    rw [Int.sub_self, F_zero] at k2
    have k3 := F_add (t * t) (t * t) (by omega) (by omega) (by omega)
    have k4 := F_add (t * t + t * t) 1 (by omega) (by decide) (by omega)
    have hone : F 1 = 4607182418800017408 := by decide +kernel
    have h64 : F 64 = 4634204016564240384 := by decide +kernel
    rw [hone] at k4
    have k5 := F_div_zero (t * t + t * t + 1) (by omega) (by omega)
    have k6 := F_div_zero 64 (by decide) (by decide)
    rw [h64] at k6
    unfold small at ha hb hc hd
    have k7 := F_sub a c (by omega) (by omega) (by omega)
    have k8 := F_sub b d (by omega) (by omega) (by omega)
    have fa := (F_fin a (by omega)).1
    have fb := (F_fin b (by omega)).1
    have ca : Cln (F a) (F a) := clean_F a ha
    have cb : Cln (F b) (F b) := clean_F b hb
    rcases F_mul_zero (a - c) (by omega) with h9 | h9 <;> rcases F_mul_zero (b - d) (by omega) with h10 | h10
    · exact moved_of _ _ _ _ _ _ _ _ _ _ _ _ _ _ _ _ _ _ _ t hS hn' k1 k2 k3 k4 k5 k6 k7 k8 h9 h10 (F_add_zero a (by omega)) (F_add_zero b (by omega)) fa fb ca cb w
    · exact moved_of _ _ _ _ _ _ _ _ _ _ _ _ _ _ _ _ _ _ _ t hS hn' k1 k2 k3 k4 k5 k6 k7 k8 h9 h10 (F_add_zero a (by omega)) (F_add_minus b (by omega)) fa fb ca cb w
    · exact moved_of _ _ _ _ _ _ _ _ _ _ _ _ _ _ _ _ _ _ _ t hS hn' k1 k2 k3 k4 k5 k6 k7 k8 h9 h10 (F_add_minus a (by omega)) (F_add_zero b (by omega)) fa fb ca cb w
    · exact moved_of _ _ _ _ _ _ _ _ _ _ _ _ _ _ _ _ _ _ _ t hS hn' k1 k2 k3 k4 k5 k6 k7 k8 h9 h10 (F_add_minus a (by omega)) (F_add_minus b (by omega)) fa fb ca cb w
end Go.Proofs.Ytnkkgofpifhoeaa.Ch
