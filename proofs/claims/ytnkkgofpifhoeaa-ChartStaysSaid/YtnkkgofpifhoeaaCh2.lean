/- A chart's map, by its entries: an entry put, and looked up. -/
import Derived.Test.YtnkkgofpifhoeaaCh1
import Derived.MapFrom
namespace Go.Proofs.Ytnkkgofpifhoeaa.Ch
open Go.RowKit Go.Proofs.Ytnkkgofpifhoeaa.Flt Go.Proofs.Ytnkkgofpifhoeaa.Base Go.Proofs.Ytnkkgofpifhoeaa.Num Go.Proofs.Ytnkkgofpifhoeaa.Steps Go.Proofs.YtnkkgofpifhoeaaW.PrintWords Go.Proofs.YtnkkgofpifhoeaaW.PrintLast
set_option linter.unusedSimpArgs false
set_option linter.unusedVariables false
theorem is_key (k : Int) : MapKept.IsKey (.int .i64) (.int .i64 k) := by simp [MapKept.IsKey]
theorem zero25 (w : World) : (zeroValue 25).run Try.prog w = .ok (.complex .f64 0 0) w := by kernel_rfl
def found (es : Array MapEntry) (k : Int) : Option (Option (Nat × Value)) := Instr.findNow (.int .i64) (.int .i64 k) es.toList 0
theorem run_look (w : World) (r clk : Nat) (es : Array MapEntry) (k : Int) (hb : w.heap[r]? = some (.map es clk)) (v : Value) (ok : Bool) (h : (found es k = some none ∧ v = .complex .f64 0 0 ∧ ok = false) ∨ ∃ i, found es k = some (some (i, v)) ∧ ok = true) :
    (Instr.lookup 125 (.map (some r)) (.int .i64 k) true).run Try.prog w = .ok (.tuple #[v, .bool ok]) w := by
  unfold found at h
  rcases h with ⟨h, rfl, rfl⟩ | ⟨i, h, rfl⟩
  · simp [Instr.lookup, run_underlying Try.underlying125, MapKept.run_getObj_map hb, MapKept.run_checkKey Try.underlying3 (is_key k), MapKept.run_findKey Try.underlying3 h, zero25, Result.andThen]
  · simp [Instr.lookup, run_underlying Try.underlying125, MapKept.run_getObj_map hb, MapKept.run_checkKey Try.underlying3 (is_key k), MapKept.run_findKey Try.underlying3 h, zero25, Result.andThen]
def putE (es : Array MapEntry) (clk : Nat) (k : Int) (v : Value) : Array MapEntry := es.push { key := .int .i64 k, val := v, born := clk }
theorem run_put_new (w : World) (r clk : Nat) (es : Array MapEntry) (k : Int) (v : Value) (hb : w.heap[r]? = some (.map es clk)) (h : found es k = some none) :
    ∃ w1, (Instr.mapUpdate 125 (.map (some r)) (.int .i64 k) v).run Try.prog w = .ok () w1 ∧ w1.heap[r]? = some (.map (putE es clk k v) (clk + 1)) ∧ At r w w1 := by
  unfold found at h
  refine ⟨{ w with heap := w.heap.setIfInBounds r (.map (putE es clk k v) (clk + 1)) }, ?_, ?_, ?_⟩
  · simp [Instr.mapUpdate, run_underlying Try.underlying125, MapKept.run_getObj_map hb, MapKept.run_checkKey Try.underlying3 (is_key k), MapKept.run_findKey Try.underlying3 h, MapKept.run_setObj_map _ hb, Result.andThen, putE]
  · have := blk_lt hb
    simp [Array.getElem?_setIfInBounds, this]
  · refine ⟨rfl, rfl, rfl, by simp, fun j hj => ?_⟩
    show (w.heap.setIfInBounds r _)[j]? = _
    rw [Array.getElem?_setIfInBounds]
    rw [if_neg (fun e => hj e.symm)]
theorem run_put_old (w : World) (r clk i : Nat) (es : Array MapEntry) (k : Int) (v x : Value) (hb : w.heap[r]? = some (.map es clk)) (h : found es k = some (some (i, x))) (hi : ∃ b, es[i]? = some { key := .int .i64 k, val := x, born := b }) :
    ∃ w1, (Instr.mapUpdate 125 (.map (some r)) (.int .i64 k) v).run Try.prog w = .ok () w1 ∧ w1.heap[r]? = some (.map (es.modify i fun e => { e with key := .int .i64 k, val := v }) clk) ∧ At r w w1 := by
  unfold found at h
  obtain ⟨b, hi⟩ := hi
  refine ⟨{ w with heap := w.heap.setIfInBounds r (.map (es.modify i fun e => { e with key := .int .i64 k, val := v }) clk) }, ?_, ?_, ?_⟩
  · simp [Instr.mapUpdate, run_underlying Try.underlying125, MapKept.run_getObj_map hb, MapKept.run_checkKey Try.underlying3 (is_key k), MapKept.run_findKey Try.underlying3 h, hi, MapKept.run_keyThatStays (is_key k), MapKept.run_setObj_map _ hb, Result.andThen]
  · have := blk_lt hb
    simp [Array.getElem?_setIfInBounds, this]
  · refine ⟨rfl, rfl, rfl, by simp, fun j hj => ?_⟩
    show (w.heap.setIfInBounds r _)[j]? = _
    rw [Array.getElem?_setIfInBounds]
    rw [if_neg (fun e => hj e.symm)]
end Go.Proofs.Ytnkkgofpifhoeaa.Ch
