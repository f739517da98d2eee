/- Which packets may be, by their kind: pack.good; for all packets. -/
import Derived.Test.YtnkkgofpifhoeaaNum
import Derived.Lib.Hide
namespace Go.Proofs.Ytnkkgofpifhoeaa.Pk
open Go.RowKit Go.Proofs.Ytnkkgofpifhoeaa.Flt Go.Proofs.Ytnkkgofpifhoeaa.Base Go.Proofs.Ytnkkgofpifhoeaa.Num
theorem run_zeq {P : Program} (W : World) (t : TypeId) (x y : Nat) : (binOp .eql t (.complex .f64 x y) (.complex .f64 0 0)).run P W = .ok (.bool (nul x && nul y)) W := by
  have h1 := fzero x
  have h2 := fzero y
  simp [binOp, Op.complexOp, Op.Complex.cmp, Op.floatCmp, asBool, h1, h2]
def good1 (mine boot yours seq ack stamp echo : Int) (zr zi n : Nat) : Bool :=
  decide (mine ≠ 0 ∧ seq < 2 ∧ ((0 < boot) ↔ (0 < yours)) ∧ n = 0 ∧ ack = 0 ∧ stamp = 0 ∧ echo = 0) && (nul zr && nul zi)
def good2 (mine boot yours stamp echo : Int) (zr zi n : Nat) : Bool :=
  decide (mine ≠ 0 ∧ boot > 0 ∧ yours > 0 ∧ 0 < n ∧ stamp = 0 ∧ echo = 0) && (nul zr && nul zi)
def good3 (mine boot yours seq stamp echo : Int) (zr zi n : Nat) : Bool :=
  decide (mine ≠ 0 ∧ boot > 0 ∧ yours > 0 ∧ n = 0 ∧ seq = 0 ∧ stamp = 0 ∧ echo = 0) && (nul zr && nul zi)
def good4 (mine boot yours seq : Int) (zr zi n : Nat) : Bool :=
  placeB zr zi && decide (mine ≠ 0 ∧ boot > 0 ∧ yours > 0 ∧ n = 0 ∧ seq = 0)
set_option maxRecDepth 100000 in
set_option maxHeartbeats 4000000 in
theorem good_hello (mine boot yours seq ack stamp echo : Int) (zr zi : Nat) (A : Option Addr) (n c : Nat) (w : World) :
    Calls Try.prog 66 #[.agg #[.int .i64 1, .int .u32 mine, .int .u32 boot, .int .u32 yours, .int .u32 seq, .int .u32 ack, .int .u32 stamp, .int .u32 echo, .complex .f64 zr zi, .slice A n c],
      .agg #[.bool true, .bool false, .bool false, .bool false, .int .i64 14, .int .i64 14]] w
      fun e w' => e = .returned (.bool (good1 mine boot yours seq ack stamp echo zr zi n)) ∧ Below w.heap.size w w' := by
  have hz := fun (W : World) => run_zeq (P := Try.prog) W 25 zr zi
  have hu27 := Try.underlying27
  go_enter Try.func66, Try.ntmps66
  go_wp2
  all_goals
    go_ret
    refine ⟨ret_bool ?_, ?_⟩
    · unfold good1
      simp_all <;> omega
    · repeat (first | exact Below.refl _ _ | refine Below.setCell ?_ (by simp <;> omega) _ | refine Below.alloc ?_ (by simp <;> omega) _)
set_option maxRecDepth 100000 in
set_option maxHeartbeats 4000000 in
theorem good_data (mine boot yours seq ack stamp echo : Int) (zr zi : Nat) (A : Option Addr) (n c : Nat) (w : World) :
    Calls Try.prog 66 #[.agg #[.int .i64 2, .int .u32 mine, .int .u32 boot, .int .u32 yours, .int .u32 seq, .int .u32 ack, .int .u32 stamp, .int .u32 echo, .complex .f64 zr zi, .slice A n c],
      .agg #[.bool true, .bool true, .bool false, .bool true, .int .i64 22, .int .i64 1021]] w
      fun e w' => e = .returned (.bool (good2 mine boot yours stamp echo zr zi n)) ∧ Below w.heap.size w w' := by
  have hz := fun (W : World) => run_zeq (P := Try.prog) W 25 zr zi
  have hu27 := Try.underlying27
  go_enter Try.func66, Try.ntmps66
  go_wp2
  all_goals
    go_ret
    refine ⟨ret_bool ?_, ?_⟩
    · unfold good2
      simp_all <;> omega
    · repeat (first | exact Below.refl _ _ | refine Below.setCell ?_ (by simp <;> omega) _ | refine Below.alloc ?_ (by simp <;> omega) _)
set_option maxRecDepth 100000 in
set_option maxHeartbeats 4000000 in
theorem good_ack (mine boot yours seq ack stamp echo : Int) (zr zi : Nat) (A : Option Addr) (n c : Nat) (w : World) :
    Calls Try.prog 66 #[.agg #[.int .i64 3, .int .u32 mine, .int .u32 boot, .int .u32 yours, .int .u32 seq, .int .u32 ack, .int .u32 stamp, .int .u32 echo, .complex .f64 zr zi, .slice A n c],
      .agg #[.bool false, .bool true, .bool false, .bool false, .int .i64 17, .int .i64 17]] w
      fun e w' => e = .returned (.bool (good3 mine boot yours seq stamp echo zr zi n)) ∧ Below w.heap.size w w' := by
  have hz := fun (W : World) => run_zeq (P := Try.prog) W 25 zr zi
  have hu27 := Try.underlying27
  go_enter Try.func66, Try.ntmps66
  go_wp2
  all_goals
    go_ret
    refine ⟨ret_bool ?_, ?_⟩
    · unfold good3
      simp_all <;> omega
    · repeat (first | exact Below.refl _ _ | refine Below.setCell ?_ (by simp <;> omega) _ | refine Below.alloc ?_ (by simp <;> omega) _)
set_option maxRecDepth 100000 in
set_option maxHeartbeats 4000000 in
theorem good_beat (mine boot yours seq ack stamp echo : Int) (zr zi : Nat) (A : Option Addr) (n c : Nat) (w : World) (hp : zr < 18446744073709551616) (hq : zi < 18446744073709551616) :
    Calls Try.prog 66 #[.agg #[.int .i64 4, .int .u32 mine, .int .u32 boot, .int .u32 yours, .int .u32 seq, .int .u32 ack, .int .u32 stamp, .int .u32 echo, .complex .f64 zr zi, .slice A n c],
      .agg #[.bool false, .bool true, .bool true, .bool false, .int .i64 41, .int .i64 41]] w
      fun e w' => e = .returned (.bool (good4 mine boot yours seq zr zi n)) ∧ Below w.heap.size w w' := by
  have hz := fun (W : World) => run_zeq (P := Try.prog) W 25 0 0
  have hn : nul 0 = true := rfl
  have hu27 := Try.underlying27
  cases hpl : placeB zr zi
  all_goals
    have HP := Lib.hid hpl
    clear hpl
    have hq' := Lib.hid hq
    have hp' := Lib.hid hp
    clear hp hq
    go_enter Try.func66, Try.ntmps66
    go_wp2_with (go_at_call 99; refine (right_any zr zi hp'.out hq'.out _).mono ?_; rintro e w' ⟨rfl, hb⟩; rw [HP.out]; obtain ⟨hc, hf⟩ := bcell hb; have hz1 := hb.size; simp at hz1)
  all_goals
    go_ret
    refine ⟨ret_bool ?_, ?_⟩
    · unfold good4
      rw [HP.out]
      simp_all <;> omega
    · (repeat (first | refine Below.setCell ?_ (by simp <;> omega) _ | refine Below.alloc ?_ (by simp <;> omega) _ | exact Below.refl _ _ | refine Below.trans ?_ (Below.mono (by assumption) (by simp <;> omega))))
end Go.Proofs.Ytnkkgofpifhoeaa.Pk
