/- Near at the chapter's example: the list of two nodes is handed back in order, in new memory. -/
import Derived.Test.YtnkkgofpifhoeaaCh4
namespace Go.Proofs.Ytnkkgofpifhoeaa.Ch
open Go.RowKit Go.Proofs.Ytnkkgofpifhoeaa.Flt Go.Proofs.Ytnkkgofpifhoeaa.Base Go.Proofs.Ytnkkgofpifhoeaa.Num Go.Proofs.Ytnkkgofpifhoeaa.Steps Go.Proofs.YtnkkgofpifhoeaaW.PrintWords Go.Proofs.YtnkkgofpifhoeaaW.PrintLast
set_option linter.unusedSimpArgs false
set_option linter.unusedVariables false
set_option maxRecDepth 100000 in
set_option maxHeartbeats 2000000 in
theorem stable_of (bx g h r p q clk i x y cap : Nat) (es : Array MapEntry) (w : World) (H : Two w bx g h r p q clk es 3 2) (hf : found es 2 = some (some (i, .complex .f64 x y))) (hn : found es 3 = some none) :
    Calls Try.prog 123 #[.slice (some ⟨h, 0, none⟩) 2 cap, .int .i64 2, .func (.func 101) #[] #[.pointer (some ⟨bx, 0, none⟩)]] w (InsPost h w) := by
  have HI := Lib.hid (ins_of bx g h r p q clk i x y cap es w H hf hn)
  clear H hf hn
  go_enter Try.func123, Try.ntmps123
  go_wp2
  refine wp_loop_rounds 1 ?_
  rw [rounds_succ]
  go_wp2_with fail
  refine HI.out.mono ?_
  rintro e w1 ⟨⟨v, rfl⟩, hat, h0, h1⟩
  have HAT := Lib.hid hat
  have H0 := Lib.hid h0
  have H1 := Lib.hid h1
  clear hat h0 h1
  go_wp2
  refine wp_loop_rounds 1 ?_
  rw [rounds_succ]
  go_wp2
  go_end0
  unfold InsPost
  exact ⟨⟨_, rfl⟩, HAT.out, H0.out, H1.out⟩
theorem sort_of (bx g h r p q clk i x y cap : Nat) (es : Array MapEntry) (w : World) (H : Two w bx g h r p q clk es 3 2) (hf : found es 2 = some (some (i, .complex .f64 x y))) (hn : found es 3 = some none) :
    Calls Try.prog 100 #[.slice (some ⟨h, 0, none⟩) 2 cap, .func (.func 101) #[] #[.pointer (some ⟨bx, 0, none⟩)]] w (InsPost h w) := by
  have HI := Lib.hid (stable_of bx g h r p q clk i x y cap es w H hf hn)
  clear H hf hn
  go_enter Try.func100, Try.ntmps100
  go_wp2_with fail
  refine HI.out.mono ?_
  rintro e w1 ⟨⟨v, rfl⟩, hat, h0, h1⟩
  have HAT := Lib.hid hat
  have H0 := Lib.hid h0
  have H1 := Lib.hid h1
  clear hat h0 h1
  go_wp2
  go_end0
  unfold InsPost
  exact ⟨⟨_, rfl⟩, HAT.out, H0.out, H1.out⟩
theorem info3 : (Try.prog.info? 3).map (fun i => (i.zero, i.size, i.bytes)) = some (some (.int .i64 0), 1, 8) := by kernel_rfl
theorem R_addr64 {w : World} {base : Nat} {ok : Nat → Prop} {v : Value} {xs : List Int} (h : (Kd.int .i64).R 3 w base ok v xs) (hn : 0 < xs.length) : ∃ g c, v = .slice (some ⟨g, 0, none⟩) xs.length c ∧ base ≤ g := by
  obtain ⟨inner, ho⟩ := Kd.R_own h
  rcases ho.2 with ⟨_, h0⟩ | ⟨g, cap, cur, he, hb, _⟩
  · omega
  · exact ⟨g, cap, he, hb⟩
def NearPost (w : World) (e : Ending) (w' : World) : Prop := ∃ h cap, e = .returned (.slice (some ⟨h, 0, none⟩) 2 cap) ∧ w'.cell? ⟨h, 0, none⟩ = some (.int .i64 2) ∧ w'.cell? ⟨h, 1, none⟩ = some (.int .i64 3) ∧ Below w.heap.size w w'
set_option maxRecDepth 100000 in
set_option maxHeartbeats 2000000 in
theorem near_of (g r p q clk i x y c : Nat) (A : Option Addr) (es : Array MapEntry) (w : World) (hC : ChartAt w g r p q es clk) (hL : (Kd.int .i64).C w A 2 [3, 2]) (hf : found es 2 = some (some (i, .complex .f64 x y))) (hn : found es 3 = some none) :
    Calls Try.prog 68 #[.pointer (some ⟨g, 0, none⟩), .slice A 2 c] w (NearPost w) := by
  have HC := Lib.hid hC
  have HL := Lib.hid hL
  have HF := Lib.hid hf
  have HN := Lib.hid hn
  clear hC hL hf hn
  go_enter Try.func68, Try.ntmps68
  go_wp2_with (((with_reducible refine gate_dst (N := 9) rfl ?_); (refine Kd.R_append_row (h1 := fun _ => rfl) (Value.int .i64) 0 (w0 := w.alloc (.cells #[.pointer (some ⟨g, 0, none⟩)] 39)) (w.alloc (.cells #[.pointer (some ⟨g, 0, none⟩)] 39)).heap.size rfl (.const (.slice none 0 0)) (.tmp 8) 101 3 (.int .i64 0) 8 rfl Try.underlying101 info3 rfl (by decide) (.slice none 0 0) [] [3, 2] _ _ _ (fun _ => True) rfl rfl (fun _ _ => trivial) (Kd.R_nil _ _ _ _ _) (Kd.C_below HL.out ((Below.refl _ _).alloc (Nat.le_refl _) _)) (Below.refl _ _) (Nat.le_refl _) (by decide) ?_); (intro v1 w1 hR hb _ _)))
  have hbox := heap_alloc_new w (Obj.cells #[.pointer (some ⟨g, 0, none⟩)] 39)
  have hsz : (w.alloc (Obj.cells #[.pointer (some ⟨g, 0, none⟩)] 39)).heap.size = w.heap.size + 1 := by simp
  have hR' : (Kd.int .i64).R 3 w1 (w.heap.size + 1) (fun _ => True) v1 [3, 2] := by
    rw [← hsz]
    exact hR
  have hW1 : Below w.heap.size w w1 := ((Below.refl w.heap.size w).alloc (Nat.le_refl _) _).trans (hb.mono (by simp))
  have hbx : w1.cell? ⟨w.heap.size, 0, none⟩ = some (.pointer (some ⟨g, 0, none⟩)) := (blk_cell ((hb.block w.heap.size (by rw [hsz]; omega)).trans hbox) 0).trans rfl
  obtain ⟨h, cap, rfl, hh⟩ := R_addr64 hR' (by decide)
  have hc0 := Kd.R_celln (0 : Int) hR' 0 (by decide) (by decide)
  have hc1 := Kd.R_celln (0 : Int) hR' 1 (by decide) (by decide)
  have hgl := blk_lt HC.out.blk
  have hrl := blk_lt HC.out.map
  have hTwo : Two w1 w.heap.size g h r p q clk es 3 2 := ⟨hbx, HC.out.below hW1, hc0.1, hc1.1, hc0.2, hc1.2, by omega, by omega, by omega⟩
  have HT := Lib.hid hTwo
  have HW := Lib.hid hW1
  clear hbox hR hR' hb hW1 hbx hc0 hc1 hTwo hsz
  refine (sort_of w.heap.size g h r p q clk i x y cap es w1 HT.out HF.out HN.out).mono ?_
  rintro e w2 ⟨⟨v, rfl⟩, hat, h0, h1⟩
  have HAT := Lib.hid hat
  have H0 := Lib.hid h0
  have H1 := Lib.hid h1
  clear hat h0 h1
  go_wp2
  go_ret
  unfold NearPost
  exact ⟨h, cap, rfl, H0.out, H1.out, HAT.out.below HW.out (by omega)⟩
end Go.Proofs.Ytnkkgofpifhoeaa.Ch
