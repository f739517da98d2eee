/- A chart made, told of a node, asked: New, Hear, Own, Of; for all charts. -/
import Derived.Test.YtnkkgofpifhoeaaCh2
namespace Go.Proofs.Ytnkkgofpifhoeaa.Ch
open Go.RowKit Go.Proofs.Ytnkkgofpifhoeaa.Flt Go.Proofs.Ytnkkgofpifhoeaa.Base Go.Proofs.Ytnkkgofpifhoeaa.Num Go.Proofs.Ytnkkgofpifhoeaa.Steps Go.Proofs.YtnkkgofpifhoeaaW.PrintWords Go.Proofs.YtnkkgofpifhoeaaW.PrintLast
set_option linter.unusedSimpArgs false
set_option linter.unusedVariables false
structure ChartAt (w : World) (g r : Nat) (p q : Nat) (es : Array MapEntry) (clk : Nat) : Prop where
  blk : w.heap[g]? = some (.cells #[.complex .f64 p q, .map (some r)] 127 (0, 0))
  map : w.heap[r]? = some (.map es clk)
  ne : g ≠ r
theorem ChartAt.below {w w1 : World} {g r p q clk : Nat} {es : Array MapEntry} (h : ChartAt w g r p q es clk) (hb : Below w.heap.size w w1) : ChartAt w1 g r p q es clk :=
  ⟨(hb.block g (blk_lt h.blk)).trans h.blk, (hb.block r (blk_lt h.map)).trans h.map, h.ne⟩
def NewPost (p q : Nat) (w : World) (e : Ending) (w' : World) : Prop := ∃ g r, e = .returned (.tuple #[.pointer (some ⟨g, 0, none⟩), .int .i64 0]) ∧ ChartAt w' g r p q #[] 0 ∧ w.heap.size ≤ g ∧ w.heap.size ≤ r ∧ Below w.heap.size w w'
theorem new_ok (p q : Nat) (hp : p < 18446744073709551616) (hq : q < 18446744073709551616) (hpl : placeB p q = true) (w : World) : Calls Try.prog 22 #[.complex .f64 p q] w (NewPost p q w) := by
  have HPL := Lib.hid hpl
  have hmm := fun (W : World) => run_makeMap (P := Try.prog) 125 W
  clear hpl
  go_enter Try.func22, Try.ntmps22
  go_wp2_with (go_at_call 69; refine (place_is p q hp hq _).mono ?_; rintro e w1 ⟨rfl, hb⟩; rw [HPL.out]; have HB := Lib.hid hb; clear hb)
  go_ret2
  unfold NewPost
  have hsz := HB.out.size
  have h1 := heap_alloc_new w1 (Obj.map #[] 0)
  have hb2 : Below (w1.alloc (Obj.map #[] 0)).heap.size (w1.alloc (Obj.map #[] 0)) ((w1.alloc (Obj.map #[] 0)).alloc (Obj.cells #[.complex .f64 p q, .map (some w1.heap.size)] 127)) := (Below.refl _ _).alloc (Nat.le_refl _) _
  have h2 := heap_alloc_new (w1.alloc (Obj.map #[] 0)) (Obj.cells #[.complex .f64 p q, .map (some w1.heap.size)] 127)
  have hs : (w1.alloc (Obj.map #[] 0)).heap.size = w1.heap.size + 1 := by simp
  rw [hs] at h2
  refine ⟨_, _, rfl, ⟨h2, (hb2.block _ (by rw [hs]; omega)).trans h1, by omega⟩, by omega, by omega, ?_⟩
  exact (HB.out.alloc hsz _).alloc (by rw [hs]; omega) _
def HearPost (w0 : World) (g r cp cq : Nat) (es' : Array MapEntry) (clk' : Nat) (e : Ending) (w' : World) : Prop := e = .returned (.int .i64 0) ∧ ChartAt w' g r cp cq es' clk' ∧ Below w0.heap.size w0 w'
set_option maxRecDepth 100000 in
set_option maxHeartbeats 2000000 in
theorem hear_of (g r x y u v cp cq clk clk' : Nat) (es es' : Array MapEntry) (node t : Int) (w0 w : World) (hC : ChartAt w g r x y es clk) (hB : Below w0.heap.size w0 w) (hg : w0.heap.size ≤ g) (hr : w0.heap.size ≤ r)
    (hn1 : 1 ≤ node) (hn2 : node ≤ 64) (hu : u < 18446744073709551616) (hv : v < 18446744073709551616) (hpl : placeB u v = true) (ht1 : 0 ≤ t) (ht2 : t ≤ 1048576)
    (hput : ∀ W : World, W.heap[r]? = some (.map es clk) → ∃ w1, (Instr.mapUpdate 125 (.map (some r)) (.int .i64 node) (.complex .f64 u v)).run Try.prog W = .ok () w1 ∧ w1.heap[r]? = some (.map es' clk') ∧ At r W w1)
    (hmv : ∀ W : World, Calls Try.prog 70 #[.complex .f64 x y, .complex .f64 u v, .int .i64 t] W fun e w' => e = .returned (.complex .f64 cp cq) ∧ Below W.heap.size W w') :
    Calls Try.prog 23 #[.pointer (some ⟨g, 0, none⟩), .int .i64 node, .complex .f64 u v, .int .i64 t] w (HearPost w0 g r cp cq es' clk') := by
  have HC := Lib.hid hC
  have HW := Lib.hid hB
  have HPL := Lib.hid hpl
  have HPUT := Lib.hid hput
  have HMV := Lib.hid hmv
  clear hC hB hpl hput hmv
  go_enter Try.func23, Try.ntmps23
  go_wp2_with fail
  refine (place_is u v hu hv _).mono ?_
  rintro e w1 ⟨rfl, hb⟩
  rw [HPL.out]
  have HC1 := Lib.hid (HC.out.below hb)
  have HW1 := Lib.hid (HW.out.trans (hb.mono HW.out.size))
  clear hb HC HW
  have hm1 : w1.cell? ⟨g, 1, none⟩ = some (.map (some r)) := (blk_cell HC1.out.blk 1).trans rfl
  obtain ⟨w2, hrun, hm2, hat2⟩ := HPUT.out w1 HC1.out.map
  have HB2 := Lib.hid ((hat2.block g HC1.out.ne).trans HC1.out.blk)
  have HM2 := Lib.hid hm2
  have HW2 := Lib.hid (hat2.below HW1.out hr)
  have hc0 : w2.cell? ⟨g, 0, none⟩ = some (.complex .f64 x y) := (blk_cell HB2.out 0).trans rfl
  have HNE := Lib.hid HC1.out.ne
  clear hm2 hat2 HPUT
  go_wp2_with fail
  refine (HMV.out _).mono ?_
  rintro e w3 ⟨rfl, hb3⟩
  have HB3 := Lib.hid ((hb3.block g (blk_lt HB2.out)).trans HB2.out)
  have HM3 := Lib.hid ((hb3.block r (blk_lt HM2.out)).trans HM2.out)
  have HW3 := Lib.hid (HW2.out.trans (hb3.mono HW2.out.size))
  have hc3 : w3.cell? ⟨g, 0, none⟩ = some (.complex .f64 x y) := (blk_cell HB3.out 0).trans rfl
  have hf3 := blk_frozen HB3.out 0
  clear hb3 hrun hc0
  go_wp2
  go_ret
  unfold HearPost
  refine ⟨rfl, ⟨blk_put HB3.out 0 _ rfl, ?_, HNE.out⟩, HW3.out.setCell (p := ⟨g, 0, none⟩) hg _⟩
  exact (Below.heap_setCell w3 ⟨g, 0, none⟩ _ r (fun e => HNE.out e.symm)).trans HM3.out
theorem own_of (g r p q clk : Nat) (es : Array MapEntry) (w : World) (h : ChartAt w g r p q es clk) : Calls Try.prog 24 #[.pointer (some ⟨g, 0, none⟩)] w fun e w' => e = .returned (.complex .f64 p q) ∧ w = w' := by
  have hc0 : w.cell? ⟨g, 0, none⟩ = some (.complex .f64 p q) := (blk_cell h.blk 0).trans rfl
  clear h
  go_enter Try.func24, Try.ntmps24
  go_wp2
  go_ret
  exact ⟨rfl, rfl⟩
theorem of_of (g r p q clk i x y : Nat) (es : Array MapEntry) (node : Int) (w : World) (h : ChartAt w g r p q es clk) (hf : found es node = some (some (i, .complex .f64 x y))) : Calls Try.prog 67 #[.pointer (some ⟨g, 0, none⟩), .int .i64 node] w fun e w' => e = .returned (.tuple #[.complex .f64 x y, .bool true]) ∧ w = w' := by
  have hc1 : w.cell? ⟨g, 1, none⟩ = some (.map (some r)) := (blk_cell h.blk 1).trans rfl
  have hl := run_look w r clk es node h.map (.complex .f64 x y) true (.inr ⟨i, hf, rfl⟩)
  clear h hf
  go_enter Try.func67, Try.ntmps67
  go_wp2
  go_ret2
  exact ⟨rfl, rfl⟩
end Go.Proofs.Ytnkkgofpifhoeaa.Ch
