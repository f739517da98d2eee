/- Steps of a walk that leave a world of which only what is asked is known. No program here. -/
import Derived.Test.YtnkkgofpifhoeaaBase
import Derived.Laws.Tables
import Derived.Laws.ResultCell
import Derived.Test.YtnkkgofpifhoeaaWTab
import Derived.Test.YtnkkgofpifhoeaaWLast
import Derived.Test.YtnkkgofpifhoeaaWMore
namespace Go.Proofs.Ytnkkgofpifhoeaa.Steps
open Go.RowKit Go.Proofs.YtnkkgofpifhoeaaW.PrintWords Go.Proofs.YtnkkgofpifhoeaaW.PrintLast
/-- All but block g is as it was. -/
structure At (g : Nat) (w w' : World) : Prop where
  os : w'.os = w.os
  tape : w'.tape = w.tape
  output : w'.output = w.output
  size : w'.heap.size = w.heap.size
  block : ∀ k, k ≠ g → w'.heap[k]? = w.heap[k]?
theorem At.refl (g : Nat) (w : World) : At g w w := ⟨rfl, rfl, rfl, rfl, fun _ _ => rfl⟩
theorem At.set {g : Nat} {w w' : World} (h : At g w w') (i : Nat) (v : Value) : At g w (w'.setCell ⟨g, i, none⟩ v) :=
  ⟨h.os, h.tape, h.output, by simp [World.setCell, h.size], fun k hk => (Below.heap_setCell _ _ _ _ hk).trans (h.block k hk)⟩
theorem At.drewN {g : Nat} {w w' : World} (h : At g w w') (n : Nat) : At g w (w'.drewN n) := ⟨h.os, h.tape, h.output, h.size, h.block⟩
theorem At.below {g B : Nat} {a w w' : World} (h : At g w w') (hb : Below B a w) (hg : B ≤ g) : Below B a w' :=
  hb.trans ⟨h.os, h.tape, h.output, by rw [h.size]; exact Nat.le_refl _, fun k hk => h.block k (by omega)⟩
theorem At.cell {g : Nat} {w w' : World} (h : At g w w') {a : Addr} (ha : a.block ≠ g) : w'.cell? a = w.cell? a := World.cell?_of_block (w := w) (h.block a.block ha)
section
variable {P : Program} {ops : Array Oper} {Q : Exit → Act → World → Prop}
theorem skip_F (F : World → Prop) {oi : Oper} {a : Act} {w : World} {K : Act → World → Prop} (hw : Region.wanted oi (yielded ops a.tmps) = true) (hN : oi.dst = none)
    (h : ∃ w1, (execOp a.eval oi).run P w = .ok .skip w1 ∧ F w1) (k : ∀ w1, F w1 → K a w1) : if Region.wanted oi (yielded ops a.tmps) = true then Oper.wp P oi a w K Q else K (a.put none undef) w := by
  obtain ⟨w1, h1, h2⟩ := h
  exact skip_ hw hN h1 (k w1 h2)
variable {rest : List Oper} {o : Oper} {a : Act} {W : World}
/-- A store in the text's order. -/
theorem store_F (F : World → Prop) (hgd : o.guard = none) (hN : o.dst = none) (h : ∃ w1, (execOp a.eval o).run P W = .ok .skip w1 ∧ F w1) (k : ∀ w1, F w1 → wpList P ops Q rest a w1) : wpList P ops Q (o :: rest) a W := by
  obtain ⟨w1, h1, h2⟩ := h
  refine wpList_plain hgd fun K hK => ?_
  unfold Oper.wp
  rw [h1]
  show K (a.put o.dst undef) w1
  rw [hN]
  exact hK _ _ (k w1 h2)
/-- An operation that yields a value in the text's order. -/
theorem value_F (F : Value → World → Prop) (hgd : o.guard = none) (h : ∃ v w1, (execOp a.eval o).run P W = .ok (.value v) w1 ∧ F v w1) (k : ∀ v w1, F v w1 → wpList P ops Q rest (a.put o.dst v) w1) : wpList P ops Q (o :: rest) a W := by
  obtain ⟨v, w1, h1, h2⟩ := h
  exact Kd.event_run hgd h1 (k v w1 h2)
theorem setRow_get {w : World} {g : Nat} {old cs : Array Value} {t : TypeId} {fr : Nat × Nat} (h : w.heap[g]? = some (.cells old t fr)) : (w.setRow g cs).heap[g]? = some (.cells cs t fr) := by
  unfold World.setRow
  simp only [Array.getElem?_modify, if_true, h, Option.map_some]
theorem at_setRow (g : Nat) (w : World) (cs : Array Value) : At g w (w.setRow g cs) :=
  ⟨rfl, rfl, rfl, by simp [World.setRow], fun k hk => by
    have : g ≠ k := fun e => hk e.symm
    simp [World.setRow, Array.getElem?_modify, this]⟩
/-- A whole variable is written. -/
theorem store_row_F (hgd : o.guard = none) (hN : o.dst = none) (ty : TypeId) (x y : Operand) (ho : o.op = .store ty x y) (g : Nat) (cells : Array Value) (hx : a.eval x = .pointer (some ⟨g, 0, none⟩)) (hy : a.eval y = .agg cells)
    (t : TypeId) (old : Array Value) (hg : W.heap[g]? = some (.cells old t (0, 0))) (hi : (P.info? ty).map (·.size) = some cells.size) (hold : old.size = cells.size) (h1 : cells.all (·.oneCell') = true)
    (k : ∀ w1, w1.heap[g]? = some (.cells cells t (0, 0)) → At g W w1 → wpList P ops Q rest a w1) : wpList P ops Q (o :: rest) a W :=
  wpList_store_row hgd ty x y ho g cells hx hy t old hg hi hold h1 (by
    rw [hN]
    exact k _ (setRow_get hg) (at_setRow g W cells))
end
theorem results_cell2 {P : Program} {fn : Func} {p u : Tmp} {ty : TypeId} {w : World} {v x : Value} (h : fn.results = #[.cell p ty, .tmp u]) (tmps : Array Value) (g : Nat) (hp : tmps.getD p undef = .pointer (some ⟨g, 0, none⟩)) (hx : tmps.getD u undef = x)
    (hl : (loadVar ty ⟨g, 0, none⟩).run P w = .ok v w) : (results fn tmps).run P w = .ok (.tuple #[v, x]) w := by
  rw [results_cell_tmp h, hp, hx]
  simp [asAddr, hl]
end Go.Proofs.Ytnkkgofpifhoeaa.Steps
