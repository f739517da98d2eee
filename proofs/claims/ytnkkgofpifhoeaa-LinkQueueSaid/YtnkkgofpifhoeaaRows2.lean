/- The table of packets' kinds: pack.rows. -/
import Derived.Test.YtnkkgofpifhoeaaGood
import Derived.Test.YtnkkgofpifhoeaaSteps
namespace Go.Proofs.Ytnkkgofpifhoeaa.Pk
open Go.RowKit Go.Proofs.YtnkkgofpifhoeaaW.PrintWords Go.Proofs.YtnkkgofpifhoeaaW.PrintLast Go.Proofs.Ytnkkgofpifhoeaa.Base
theorem b1 (w : World) : (Instr.build 107 #[(0, .bool true), (4, .int .i64 14), (5, .int .i64 14)]).run Try.prog w = .ok (.agg #[.bool true, .bool false, .bool false, .bool false, .int .i64 14, .int .i64 14]) w := by kernel_rfl
theorem b2 (w : World) : (Instr.build 107 #[(0, .bool true), (1, .bool true), (3, .bool true), (4, .int .i64 22), (5, .int .i64 1021)]).run Try.prog w = .ok (.agg #[.bool true, .bool true, .bool false, .bool true, .int .i64 22, .int .i64 1021]) w := by kernel_rfl
theorem b3 (w : World) : (Instr.build 107 #[(1, .bool true), (4, .int .i64 17), (5, .int .i64 17)]).run Try.prog w = .ok (.agg #[.bool false, .bool true, .bool false, .bool false, .int .i64 17, .int .i64 17]) w := by kernel_rfl
theorem b4 (w : World) : (Instr.build 107 #[(1, .bool true), (2, .bool true), (4, .int .i64 41), (5, .int .i64 41)]).run Try.prog w = .ok (.agg #[.bool false, .bool true, .bool true, .bool false, .int .i64 41, .int .i64 41]) w := by kernel_rfl
def tcells : Array Value := #[.bool false, .bool false, .bool false, .bool false, .int .i64 0, .int .i64 0, .bool true, .bool false, .bool false, .bool false, .int .i64 14, .int .i64 14, .bool true, .bool true, .bool false, .bool true, .int .i64 22, .int .i64 1021, .bool false, .bool true, .bool false, .bool false, .int .i64 17, .int .i64 17, .bool false, .bool true, .bool true, .bool false, .int .i64 41, .int .i64 41]
def table : Value := .agg tcells
theorem b5 (w : World) : (Instr.build 108 #[(1, .agg #[.bool true, .bool false, .bool false, .bool false, .int .i64 14, .int .i64 14]), (2, .agg #[.bool true, .bool true, .bool false, .bool true, .int .i64 22, .int .i64 1021]), (3, .agg #[.bool false, .bool true, .bool false, .bool false, .int .i64 17, .int .i64 17]), (4, .agg #[.bool false, .bool true, .bool true, .bool false, .int .i64 41, .int .i64 41])]).run Try.prog w = .ok (.agg tcells) w := by kernel_rfl
def zrow : Array Value := #[.bool false, .bool false, .bool false, .bool false, .int .i64 0, .int .i64 0, .bool false, .bool false, .bool false, .bool false, .int .i64 0, .int .i64 0,.bool false, .bool false, .bool false, .bool false, .int .i64 0, .int .i64 0,.bool false, .bool false, .bool false, .bool false, .int .i64 0, .int .i64 0,.bool false, .bool false, .bool false, .bool false, .int .i64 0, .int .i64 0]
theorem al (w : World) (v : Value) : (Instr.alloc 108 true v).run Try.prog w = .ok (.pointer (some ⟨w.heap.size, 0, none⟩)) (w.alloc (.cells zrow 108)) := by kernel_rfl
theorem results_cell {P : Program} {fn : Func} {p : Tmp} {ty : TypeId} {w : World} {v : Value} (h : fn.results = #[.cell p ty]) (tmps : Array Value) (g : Nat) (hp : tmps.getD p undef = .pointer (some ⟨g, 0, none⟩))
    (hl : (loadVar ty ⟨g, 0, none⟩).run P w = .ok v w) : (results fn tmps).run P w = .ok v w := by
  have hp' : tmps[p]?.getD undef = .pointer (some ⟨g, 0, none⟩) := by simpa using hp
  simp only [results, h]
  simp [hp', asAddr, hl]
theorem setRow_alloc (w : World) (a b : Array Value) (t : TypeId) : (w.alloc (.cells a t)).setRow w.heap.size b = w.alloc (.cells b t) := by
  have hm : ∀ (h : Array Obj) (x : Obj) (f : Obj → Obj), (h.push x).modify h.size f = h.push (f x) := by
    intro h x f
    apply Array.ext
    · simp
    · intro i h1 h2
      simp only [Array.getElem_modify, Array.getElem_push]
      by_cases hi : h.size = i
      · subst hi
        simp
      · have hlt : i < h.size := by simp at h1; omega
        simp [hi, hlt]
  unfold World.setRow World.alloc
  simp only
  rw [hm]
set_option maxRecDepth 100000 in
set_option maxHeartbeats 4000000 in
theorem rows_any (w : World) : Calls Try.prog 59 #[] w fun e w' => e = .returned table ∧ Below w.heap.size w w' := by
  have h1 := b1
  have h2 := b2
  have h3 := b3
  have h4 := b4
  have h5 := b5
  have h0 := al
  go_enter Try.func59, Try.ntmps59
  go_wp2_with (((with_reducible refine gate_ (.store 108 (.tmp 0) (.tmp 5)) rfl ?_); refine wpList_store_row rfl 108 (.tmp 0) (.tmp 5) rfl w.heap.size _ rfl rfl 108 zrow (heap_alloc_new w _) (by kernel_rfl) rfl (by kernel_rfl) ?_; rw [setRow_alloc]))
  refine bodyPost_ret (v := table) ?_ rfl ⟨rfl, (Below.refl _ _).alloc (Nat.le_refl _) _⟩
  have hl := run_loadVar_row (P := Try.prog) (w.alloc (.cells tcells 108)) w.heap.size 108 108 tcells (0, 0) _ (heap_alloc_new w _) Try.underlying108 rfl (by kernel_rfl)
  exact results_cell Try.results59 _ _ rfl hl
end Go.Proofs.Ytnkkgofpifhoeaa.Pk
