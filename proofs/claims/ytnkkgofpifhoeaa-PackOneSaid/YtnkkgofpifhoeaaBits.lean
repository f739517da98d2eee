/- A float's bits, and back; a number's bytes as a number: in range, and as the document reckons it. -/
import Derived.Test.YtnkkgofpifhoeaaReader4
import Derived.Laws.Externs
namespace Go.Proofs.Ytnkkgofpifhoeaa.Pk
open Go.RowKit Go.Proofs.Ytnkkgofpifhoeaa.Base Go.Proofs.YtnkkgofpifhoeaaW.PrintWords Go.Proofs.YtnkkgofpifhoeaaW.PrintLast
@[go_sem] theorem run_frombits (n : Int) (w : World) : (callFunc 61 #[.int .u64 n]).run Try.prog w = .ok (.value (.float .f64 n.toNat)) w := by
  rw [run_callFunc_extern (P := Try.prog) (f := 61) (fn := Try.f61) (e := Extern.MathFloatBits.float64frombits) (by kernel_rfl) (by kernel_rfl) rfl (by kernel_rfl) (by rfl)]
  rfl
@[go_sem] theorem run_tobits (n : Nat) (w : World) : (callFunc 65 #[.float .f64 n]).run Try.prog w = .ok (.value (.int .u64 n)) w := by
  rw [run_callFunc_extern (P := Try.prog) (f := 65) (fn := Try.f65) (e := Extern.MathFloatBits.float64bits) (by kernel_rfl) (by kernel_rfl) rfl (by kernel_rfl) (by rfl)]
  rfl
theorem wrap_u64 (n : Int) : IntKind.u64.wrap n = n % 18446744073709551616 := by simp [IntKind.wrap, IntKind.bits, IntKind.signed]
theorem bits_range (x y : Int) : 0 ≤ Go.bits .or .u64 x y ∧ Go.bits .or .u64 x y < 18446744073709551616 := by
  have : ∀ z : Int, 0 ≤ IntKind.u64.wrap z ∧ IntKind.u64.wrap z < 18446744073709551616 := fun z => by rw [wrap_u64]; omega
  exact this _
theorem numOf_range (l : List Int) (a : Int) (h0 : 0 ≤ a) (h1 : a < 18446744073709551616) : 0 ≤ numOf a l ∧ numOf a l < 18446744073709551616 := by
  induction l generalizing a with
  | nil => exact ⟨h0, h1⟩
  | cons c l ih =>
    have hb := bits_range (IntKind.u64.wrap (a * 256)) (IntKind.u64.wrap c)
    exact ih _ hb.1 hb.2
theorem num8_range (l : List Int) : 0 ≤ num8 l ∧ num8 l < 18446744073709551616 := numOf_range _ 0 (by decide) (by decide)
theorem num8_lt (l : List Int) : (num8 l).toNat < 18446744073709551616 := by
  have := num8_range l
  omega
/-- A number's bytes, the highest first, as the document reckons them. -/
def bigOf (a : Int) (l : List Int) : Int := l.foldl (fun n c => (n * 256) % 18446744073709551616 + c) a
theorem wraps_u64 (n : Int) (h₀ : 0 ≤ n) (h₁ : n < 2 ^ 64) : IntKind.u64.wrap n = n := by rw [wrap_u64]; omega
theorem num_step (a c : Int) (h0 : 0 ≤ c) (h1 : c < 256) : Go.bits .or .u64 (IntKind.u64.wrap (a * 256)) (IntKind.u64.wrap c) = (a * 256) % 18446744073709551616 + c := by
  have hw : IntKind.u64.wrap c = c := wraps_u64 c h0 (by omega)
  rw [hw, wrap_u64]
  exact bits_join .u64 64 (by decide) wraps_u64 8 _ _ (by omega) (by omega) (by omega) h0 (by omega) (by omega)
theorem numOf_big (l : List Int) (a : Int) (h : ∀ c ∈ l, 0 ≤ c ∧ c < 256) : numOf a l = bigOf a l := by
  induction l generalizing a with
  | nil => rfl
  | cons c l ih =>
    have hc := h c List.mem_cons_self
    show numOf (Go.bits .or .u64 (IntKind.u64.wrap (a * 256)) (IntKind.u64.wrap c)) l = bigOf ((a * 256) % 18446744073709551616 + c) l
    rw [num_step a c hc.1 hc.2]
    exact ih _ fun x hx => h x (List.mem_cons_of_mem _ hx)
theorem wrapU32 (x : Int) : IntKind.u32.wrap x = x % 4294967296 := by go_num
/-- A packet's cells, or the zero packet's where something is wrong. -/
def decAgg (e : Int) (cs : Array Value) : Array Value := if e = 0 then cs else #[.int .i64 0, .int .u32 0, .int .u32 0, .int .u32 0, .int .u32 0, .int .u32 0, .int .u32 0, .int .u32 0, .complex .f64 0 0, .slice none 0 0]
/-- Behind a packet that is read with its body. -/
def DecBody (cs : Value → Array Value) (ck : Int) (l : List Int) (w : World) (e : Ending) (w' : World) : Prop := ∃ v, e = .returned (.tuple #[.agg (decAgg ck (cs v)), .int .i64 ck]) ∧ (Kd.int .u8).R 5 w' w.heap.size (fun _ => True) v l ∧ Below w.heap.size w w'
end Go.Proofs.Ytnkkgofpifhoeaa.Pk
