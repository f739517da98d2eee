/- Two packets with the same fields and bodies of the same bytes are the same by the document; a kind apart is not. -/
import Derived.Test.YtnkkgofpifhoeaaRef2
import Derived.Test.YtnkkgofpifhoeaaSteps
namespace Go.Proofs.Ytnkkgofpifhoeaa.Pk
open Go.RowKit Go.Proofs.Ytnkkgofpifhoeaa.Flt Go.Proofs.Ytnkkgofpifhoeaa.Base Go.Proofs.Ytnkkgofpifhoeaa.Num Go.Proofs.YtnkkgofpifhoeaaW.PrintWords Go.Proofs.YtnkkgofpifhoeaaW.PrintLast
set_option linter.unusedSimpArgs false
set_option linter.unusedVariables false
theorem run_zself {P : Program} (W : World) (t : TypeId) (x y : Nat) (h1 : (Ieee.double.order x x == some Ordering.eq) = true) (h2 : (Ieee.double.order y y == some Ordering.eq) = true) : (binOp .eql t (.complex .f64 x y) (.complex .f64 x y)).run P W = .ok (.bool true) W := by
  have h1' : (FloatKind.f64.format.order x x == some Ordering.eq) = true := h1
  have h2' : (FloatKind.f64.format.order y y == some Ordering.eq) = true := h2
  simp [binOp, Op.complexOp, Op.Complex.cmp, Op.floatCmp, asBool]
  simp_all
theorem order_self (x : Nat) (h : fin x = true) : (Ieee.double.order x x == some Ordering.eq) = true := by
  unfold Ieee.Format.order
  have h' := of_decide_eq_true h
  cases hr : Ieee.double.read x with
  | number s m i =>
    simp only [Ieee.Datum.order]
    rw [cmp_eq]
    simp
  | infinity s =>
    have := read_is x
    rw [hr] at this
    cases this
    omega
  | nan s q =>
    have := read_is x
    rw [hr] at this
    cases this
    omega
theorem C_alloc {α : Type} {d : Kd α} {A : Option Addr} {n : Nat} {xs : List α} {w : World} (h : d.C w A n xs) (o : Obj) : d.C (w.alloc o) A n xs := Kd.C_below h ((Below.refl _ _).alloc (Nat.le_refl _) o)
set_option maxRecDepth 100000 in
set_option maxHeartbeats 4000000 in
theorem same_yes (kind mine boot yours seq ack stamp echo : Int) (zr zi : Nat) (A A' : Option Addr) (c c' : Nat) (l : List Int) (w : World) (hr : fin zr = true) (hi : fin zi = true)
    (hC : Kd.C (Kd.int .u8) w A l.length l) (hC' : Kd.C (Kd.int .u8) w A' l.length l) :
    Calls Try.prog 18 #[.agg #[.int .i64 kind, .int .u32 mine, .int .u32 boot, .int .u32 yours, .int .u32 seq, .int .u32 ack, .int .u32 stamp, .int .u32 echo, .complex .f64 zr zi, .slice A l.length c],
      .agg #[.int .i64 kind, .int .u32 mine, .int .u32 boot, .int .u32 yours, .int .u32 seq, .int .u32 ack, .int .u32 stamp, .int .u32 echo, .complex .f64 zr zi, .slice A' l.length c']] w
      fun e w' => e = .returned (.bool true) ∧ Below w.heap.size w w' := by
  have hz := fun (W : World) => run_zself (P := Try.prog) W 25 zr zi (order_self zr hr) (order_self zi hi)
  have hu27 := Try.underlying27
  have hk1 := fun (o o' : Obj) => Kd.C_string (P := Try.prog) (c := c) Try.underlying22 Try.underlying5 Try.underlying9 (C_alloc (C_alloc hC o) o')
  have hk2 := fun (o o' : Obj) => Kd.C_string (P := Try.prog) (c := c') Try.underlying22 Try.underlying5 Try.underlying9 (C_alloc (C_alloc hC' o) o')
  clear hC hC' hr hi
  generalize l.length = n at hk1 hk2 ⊢
  generalize strOfNums l = s at hk1 hk2
  go_enter Try.func18, Try.ntmps18
  go_wp2
  go_ret
  refine ⟨ret_bool (by simp), ?_⟩
  exact (((Below.refl _ _).alloc (Nat.le_refl _) _).alloc (by simp) _)
end Go.Proofs.Ytnkkgofpifhoeaa.Pk
