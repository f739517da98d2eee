/- meant: is a packet meant for this attempt? -/
import Derived.Test.YtnkkgofpifhoeaaLk2
namespace Go.Proofs.Ytnkkgofpifhoeaa.Lk
open Go.RowKit Go.Proofs.Ytnkkgofpifhoeaa.Base Go.Proofs.Ytnkkgofpifhoeaa.Steps Go.Proofs.YtnkkgofpifhoeaaW.PrintWords Go.Proofs.YtnkkgofpifhoeaaW.PrintLast
set_option linter.unusedSimpArgs false
set_option linter.unusedVariables false
def meantF (L : Lk) (p : Pkt) : Bool := decide (p.boot = L.own ∧ p.yours = L.token)
set_option maxHeartbeats 1000000 in
theorem meant_of {w : World} {B g : Nat} {okq oko : Nat → Prop} {L : Lk} {q o : Value} (h : At w B okq oko g L q o) (p : Pkt) (b : Value) : Calls Try.prog 77 #[.pointer (some ⟨g, 0, none⟩), .agg #[.int .i64 p.kind, .int .u32 p.mine, .int .u32 p.boot, .int .u32 p.yours, .int .u32 p.seq, .int .u32 p.ack, .int .u32 p.stamp, .int .u32 p.echo, .complex .f64 p.zr p.zi, b]] w fun e w' => e = .returned (.bool (meantF L p)) ∧ Below w.heap.size w w' := by
  have hbl := (Below.refl w.heap.size w).alloc (Nat.le_refl _) (.cells #[.int .i64 p.kind, .int .u32 p.mine, .int .u32 p.boot, .int .u32 p.yours, .int .u32 p.seq, .int .u32 p.ack, .int .u32 p.stamp, .int .u32 p.echo, .complex .f64 p.zr p.zi, b] 27)
  have h1 := h.below hbl
  generalize hw : w.alloc (.cells #[.int .i64 p.kind, .int .u32 p.mine, .int .u32 p.boot, .int .u32 p.yours, .int .u32 p.seq, .int .u32 p.ack, .int .u32 p.stamp, .int .u32 p.echo, .complex .f64 p.zr p.zi, b] 27) = w1 at *
  have hcb := heap_alloc_new w (.cells #[.int .i64 p.kind, .int .u32 p.mine, .int .u32 p.boot, .int .u32 p.yours, .int .u32 p.seq, .int .u32 p.ack, .int .u32 p.stamp, .int .u32 p.echo, .complex .f64 p.zr p.zi, b] 27)
  rw [hw] at hcb
  have hk0 : w1.cell? ⟨g, 0, none⟩ = some (.int .u32 L.own) := (blk_cell h1.blk 0).trans rfl
  have hk2 : w1.cell? ⟨g, 2, none⟩ = some (.int .u32 L.token) := (blk_cell h1.blk 2).trans rfl
  have hp2 : w1.cell? ⟨w.heap.size, 2, none⟩ = some (.int .u32 p.boot) := (blk_cell hcb 2).trans rfl
  have hp3 : w1.cell? ⟨w.heap.size, 3, none⟩ = some (.int .u32 p.yours) := (blk_cell hcb 3).trans rfl
  have HB := Lib.hid hbl
  clear h h1 hcb hbl
  unfold meantF
  generalize L.own = lo at *
  generalize L.token = lt at *
  by_cases h1 : p.boot = lo
  · have hd : decide (p.boot = lo) = true := by simp [h1]
    have he : (p.boot == lo) = true := by simp [h1]
    clear h1
    go_enter Try.func77, Try.ntmps77
    go_wp2_with fail
    go_quiet (fail)
    go_wp2
    go_ret
    have h1 : p.boot = lo := by simpa using hd
    refine ⟨?_, by first | exact HB.out | exact pw_below_drewN HB.out _ | exact bl_drew HB.out⟩
    simp only [h1, true_and]
    first | rfl | (congr 1; simp [h1]; done) | (congr 2; by_cases h2 : p.yours = lt <;> simp [h2])
  · have hd : decide (p.boot = lo) = false := by simp [h1]
    have he : (p.boot == lo) = false := by simp [h1]
    clear h1
    go_enter Try.func77, Try.ntmps77
    go_wp2_with fail
    go_quiet (fail)
    go_wp2
    go_ret
    have h1 : ¬ p.boot = lo := by simpa using hd
    refine ⟨?_, by first | exact HB.out | exact pw_below_drewN HB.out _ | exact bl_drew HB.out⟩
    simp [h1]
end Go.Proofs.Ytnkkgofpifhoeaa.Lk
