/- The law PairNil holds: no pair answers ErrNil to any act, and has no log, nothing in flight, no phase, no queue. For every act that can be read; no condition. -/
import Derived.Test.YtnkkgofpifhoeaaPB6
import Derived.Test.YtnkkgofpifhoeaaRows
import Derived.OpenShut
import Derived.ShutString
import Derived.ChangeOld
import Derived.SizedLaws
set_option linter.unusedSimpArgs false
set_option linter.unusedVariables false
section
namespace Go.Proofs.Ytnkkgofpifhoeaa.Pr
open Go.RowKit Go.Proofs.Ytnkkgofpifhoeaa.Base Go.Proofs.Ytnkkgofpifhoeaa.Steps Go.Proofs.Ytnkkgofpifhoeaa.Lk Go.Proofs.Ytnkkgofpifhoeaa.Win Go.Proofs.YtnkkgofpifhoeaaW.PrintWords Go.Proofs.YtnkkgofpifhoeaaW.PrintLast
theorem do_nil' (w : World) (k s i : Int) (b : Value) : Calls Try.prog 41 #[.pointer none, .agg #[.int .i64 k, .int .i64 s, .int .i64 i, b]] w fun e w' => e = .returned (.int .i64 1) ∧ Below w.heap.size w w' := do_nil w _ rfl k s i b rfl
set_option maxRecDepth 100000 in
set_option maxHeartbeats 2000000 in
theorem pn_walk (w : World) (k s i : Int) (b : Value) : Calls Try.prog 12 #[.agg #[.int .i64 k, .int .i64 s, .int .i64 i, b]] w fun e w' => e = .returned (.bool true) ∧ Below w.heap.size w w' := by
 have HA := Lib.hid (show Below w.heap.size w (w.alloc (.cells #[.int .i64 k, .int .i64 s, .int .i64 i, b] 72)) from (Below.refl _ _).alloc (Nat.le_refl _) _)
 have HN := Lib.hid (heap_alloc_new w (.cells #[.int .i64 k, .int .i64 s, .int .i64 i, b] 72))
 have hu72 := Try.underlying72
 go_enter Try.func12, Try.ntmps12
 go_wp2_with (first | (go_at_call 35; (have hc := alive12 (w.alloc (.cells #[.int .i64 k, .int .i64 s, .int .i64 i, b] 72))); (with_reducible refine hc.mono ?_); clear hc; rintro e w1 ⟨rfl, hb1⟩; (have HB1 := Lib.hid (HA.out.trans (hb1.mono HA.out.size))); (have HX1 := Lib.hid ((hb1.block _ (blk_lt HN.out)).trans HN.out)); (have hk0 : w1.cell? ⟨w.heap.size, 0, none⟩ = some (.int .i64 k) := (blk_cell HX1.out 0).trans rfl); (have hk1 : w1.cell? ⟨w.heap.size, 1, none⟩ = some (.int .i64 s) := (blk_cell HX1.out 1).trans rfl); (have hk2 : w1.cell? ⟨w.heap.size, 2, none⟩ = some (.int .i64 i) := (blk_cell HX1.out 2).trans rfl); (have hk3 : w1.cell? ⟨w.heap.size, 3, none⟩ = some b := (blk_cell HX1.out 3).trans rfl); clear hb1) | ((with_reducible refine gate_dst (N := 7) rfl ?_); (refine wpList_load_row rfl 72 (.tmp 1) rfl w.heap.size (by rfl) 72 #[.int .i64 k, .int .i64 s, .int .i64 i, b] (0, 0) _ HX1.out Try.underlying72 rfl (by kernel_rfl) ?_)) | (go_at_call 41; (have hc := do_nil' w1 k s i b); (with_reducible refine hc.mono ?_); clear hc; rintro e w2 ⟨rfl, hb2⟩; (have HB2 := Lib.hid (HB1.out.trans (hb2.mono HB1.out.size))); (have HX2 := Lib.hid ((hb2.block _ (blk_lt HX1.out)).trans HX1.out)); (have hm1 : w2.cell? ⟨w.heap.size, 1, none⟩ = some (.int .i64 s) := (blk_cell HX2.out 1).trans rfl); clear hb2 hk0 hk1 hk2 hk3) | (go_at_call 38; (have hc := log_nil w2 s); (with_reducible refine hc.mono ?_); clear hc; rintro e w9 ⟨rfl, rfl⟩) | (go_at_call 43; (have hc := flight_nil w2); (with_reducible refine hc.mono ?_); clear hc; rintro e w9 ⟨rfl, rfl⟩) | (go_at_call 40; (have hc := phase_nil w2 s); (with_reducible refine hc.mono ?_); clear hc; rintro e w9 ⟨rfl, rfl⟩) | (go_at_call 47; (have hc := queue_nil w2 s); (with_reducible refine hc.mono ?_); clear hc; rintro e w9 ⟨rfl, rfl⟩))
 all_goals (go_ret; exact ⟨rfl, HB2.out⟩)
end Go.Proofs.Ytnkkgofpifhoeaa.Pr
end
section
namespace Go.Proofs.Ytnkkgofpifhoeaa.pairNil
open Go.ChangeShapes Go.WideShapes Go.ChangeAt Go.RowKit Go.Deep Go.Joins
open Go.ChangeMaps (open_string shut_string)
theorem own : ownKnob Try.prog.godebug = none := by kernel_rfl
theorem laidOut : laidOutB Try.prog = true := by kernel_rfl
set_option maxRecDepth 100000 in
theorem lifted (os : Os) (started : os.Started) (H : Type) (enc : TypeId × Value → H) :
  ReturnsInHanded {} Try.checked os 12 .any (Rows.pairNilSpec.pre6 enc Try.prog Try.f12 Rows.pairNilRow.domain false) (Rows.pairNilSpec.post enc Try.prog Try.f12 false true false false) := by
 refine returnsInHanded_of_change_sized (C := Try.checked) own started (by kernel_rfl) Try.func12
  (ChangeSpec.witness6 (enc := enc) (C := Try.checked) false ⟨#[], #[.agg #[.int .i64 0, .int .i64 0, .int .i64 0, .slice none 0 0]], []⟩ 8 (by kernel_rfl) (by kernel_rfl) (by kernel_rfl) (by kernel_rfl)) ?_
 intro W base args ds gs before hval0 hW hcnd hsz0 _
 have hval : ∀ (j : Nat) t v, Try.f12.params[j]? = some t → args[j]? = some v → Value.okWide Try.prog W .any base t v := hval0
 have hW' := hW
 obtain ⟨p, q, hA0, hV, rfl, hfz, hnd⟩ := hW
 have hA : DataW.TrodAll enc Try.prog W 0 (fun _ => true) true Try.f12.params.toList args.toList ds p := hA0
 rw [Try.params12] at hA hval
 obtain ⟨v0, vs0, d0, ds0, p0, q0, hargs, rfl, rfl, h0, r0⟩ := trodAll_cons hA
 obtain ⟨rfl, rfl, rfl⟩ := trodAll_nil r0
 obtain rfl : args = #[v0] := by cases args; simp_all
 obtain ⟨rfl, rfl⟩ := trodVars_none hV
 have k0 := h0
 have lt0 : ∀ x ∈ p0, x.block < W.heap.size := by obtain ⟨m, hm⟩ := k0; exact DataW.trod_lt m _ _ _ hm
 have hs72 : Try.prog.underlying 72 = some (.struct _) := Try.underlying72
 obtain ⟨c0, c1, c2, c3, y0, y1, y2, y3, m, hv0, _, _, hy0, hy1, hy2, _⟩ := open_agg4 Try.underlying72 (by kernel_rfl) (by kernel_rfl) (hval 0 72 v0 rfl rfl) h0
 obtain ⟨a0, e0, _, _⟩ := DataW.trod_int Try.underlying3 hy0
 obtain ⟨a1, e1, _, _⟩ := DataW.trod_int Try.underlying3 hy1
 obtain ⟨a2, e2, _, _⟩ := DataW.trod_int Try.underlying3 hy2
 simp at e0 e1 e2
 subst e0 e1 e2
 subst hv0
 clear hA0 hval0 hsz0
 refine (Pr.pn_walk W a0 a1 a2 c3).mono fun e W' ⟨he, bel⟩ => ?_
 subst he
 exact ⟨_, rfl, _, _, _, [], _, [], hW', trodAll_mk1 (shut_bool Try.underlying4 _), (trodAll_cons_mk (Below.trod laidOut (by kernel_rfl) (of_decide_eq_true (by kernel_rfl)) k0 bel lt0) trodAll_mk0), rfl, bel.frame _, fun h => by cases h⟩
theorem over : Rows.pairNilRow.holds Try.pinned (OpenSpec.ofChange Rows.pairNilSpec) :=
 OpenClaim.holds_of_wide 12 Try.f12 rfl rfl rfl rfl rfl rfl rfl ⟨rfl, rfl, rfl, rfl, rfl⟩ rfl rfl rfl rfl rfl (by kernel_rfl) Try.func12 (by kernel_rfl)
  (of_decide_eq_true (by kernel_rfl)) (by unfold Func.isWrapper; first | (rw [if_pos (by decide +kernel)]; kernel_rfl) | (rw [if_neg (by decide +kernel)]; exact ⟨rfl, rfl⟩))
  (fun os started H enc _ => lifted os started H enc)
theorem proved : Rows.PairNilSaid := over
end Go.Proofs.Ytnkkgofpifhoeaa.pairNil
namespace Go.Proofs.Ytnkkgofpifhoeaa
theorem pairNil_holds : Rows.PairNilSaid := pairNil.proved
end Go.Proofs.Ytnkkgofpifhoeaa
end
