/- What the laws of a pair are proved with: links and pairs in memory, what their methods do, what a pair keeps to (part 6). -/
import Derived.Test.YtnkkgofpifhoeaaPB5
import Derived.Deep.Slices
import Derived.ChangeSame
import Derived.ProofKit
set_option linter.unusedSimpArgs false
set_option linter.unusedVariables false
section
namespace Go.Proofs.Ytnkkgofpifhoeaa.Pr
open Go.RowKit Go.Proofs.Ytnkkgofpifhoeaa.Base Go.Proofs.Ytnkkgofpifhoeaa.Steps Go.Proofs.Ytnkkgofpifhoeaa.Lk Go.Proofs.Ytnkkgofpifhoeaa.Win Go.Proofs.YtnkkgofpifhoeaaW.PrintWords Go.Proofs.YtnkkgofpifhoeaaW.PrintLast
theorem zero144 (w : World) : (zeroValue 144).run Try.prog w = .ok .nilFunc w := by kernel_rfl
theorem found_no {k : Int} (h : k < 1 ∨ 8 < k) : foundF actsE8 k = some none := by
 have b1 : (k == 1) = false := by simp; omega
 have b2 : (k == 2) = false := by simp; omega
 have b3 : (k == 3) = false := by simp; omega
 have b4 : (k == 4) = false := by simp; omega
 have b5 : (k == 5) = false := by simp; omega
 have b6 : (k == 6) = false := by simp; omega
 have b7 : (k == 7) = false := by simp; omega
 have b8 : (k == 8) = false := by simp; omega
 simp [foundF, actsE8, actsE7, actsE6, actsE5, actsE4, actsE3, actsE2, actsE1, actsE0, putF, Instr.findNow, Instr.sameNow, b1, b2, b3, b4, b5, b6, b7, b8]
theorem look_no {w : World} {r : Nat} (hb : w.heap[r]? = some (.map actsE8 8)) {k : Int} (h : k < 1 ∨ 8 < k) : (Instr.lookup 146 (.map (some r)) (.int .i64 k) true).run Try.prog w = .ok (.tuple #[.nilFunc, .bool false]) w := by
 have h := found_no h
 unfold foundF at h
 simp [Instr.lookup, run_underlying Try.underlying146, MapKept.run_getObj_map hb, MapKept.run_checkKey Try.underlying3 (key_int k), MapKept.run_findKey Try.underlying3 h, zero144, Result.andThen]
set_option maxRecDepth 100000 in
set_option maxHeartbeats 4000000 in
theorem do_e1 {w : World} {B gp : Nat} {ge : Nat → Nat} {own : Nat → Nat → Prop} {X : Pr} {lv : Nat → Value} {wv : Value} (h : PAt w B gp ge own X lv wv) (kind side i : Int) (hg1 : kind < 1 ∨ 8 < kind) (Ab : Option Addr) (nb cb : Nat) :
  Calls Try.prog 41 #[.pointer (some ⟨gp, 0, none⟩), .agg #[.int .i64 kind, .int .i64 side, .int .i64 i, .slice Ab nb cb]] w fun e w' => e = .returned (.int .i64 121) ∧ Below w.heap.size w w' := by
 have hba : Below w.heap.size w (w.alloc (.cells #[.int .i64 kind, .int .i64 side, .int .i64 i, .slice Ab nb cb] 72)) := (Below.refl _ _).alloc (Nat.le_refl _) _
 have hSS : (w.alloc (.cells #[.int .i64 kind, .int .i64 side, .int .i64 i, .slice Ab nb cb] 72)).drew.heap[w.heap.size]? = some (.cells #[.int .i64 kind, .int .i64 side, .int .i64 i, .slice Ab nb cb] 72 (0, 0)) := heap_alloc_new w _
 obtain ⟨Aw, cw, _, hwv, _⟩ := h.way.reads
 subst hwv
 have HSS := Lib.hid hSS
 have HBD0 := Lib.hid (bl_drew hba)
 have H := Lib.hid h
 have HG := Lib.hid hg1
 clear h hba hSS
 go_enter Try.func41, Try.ntmps41
 go_wp2_with fail
 have hSS := HSS.out
 have hbd := HBD0.out
 clear HSS HBD0
 refine start_ (n := 9) (S := fun w' => w'.heap[w.heap.size]? = some (.cells #[.int .i64 kind, .int .i64 side, .int .i64 i, .slice Ab nb cb] 72 (0, 0))) (ds := []) #[false, false, false, false, false, false, false, false, false] (by kernel_rfl) rfl rfl (hSS) (fun hHeld => ?_)
 generalize (w.alloc (.cells #[.int .i64 kind, .int .i64 side, .int .i64 i, .slice Ab nb cb] 72)).drew = w2 at hbd hHeld ⊢
 have HBD := Lib.hid hbd
 clear hbd
 refine pure_ (i := 1) (N := some 15) (v := ?_) (a' := ?_) #[false, true, false, false, false, false, false, false, false] rfl rfl (by kernel_rfl) (fun _ _ _ h => h) (Or.inl ⟨by rfl, ?_⟩) ?_ ?_
 rotate_left
 ·intro w'
  go_simp
  with_reducible rfl
 rotate_left
 ·simp only [Act.put, List.setIfInBounds_toArray, List.set_cons_zero, List.set_cons_succ]
  rfl
 refine take_ (i := 2) (N := some 16) (v := ?_) (a' := ?_) #[false, true, true, false, false, false, false, false, false] rfl rfl (by kernel_rfl) (fun _ _ _ h => h) (Or.inl ⟨by rfl, ?_⟩) hHeld ?_ ?_
 rotate_left
 ·intro w' s0
  have hc0 : w'.cell? ⟨w.heap.size, 0, none⟩ = some (.int .i64 kind) := (blk_cell s0 0).trans rfl
  clear s0
  go_simp
  with_reducible rfl
 rotate_left
 ·simp only [Act.put, List.setIfInBounds_toArray, List.set_cons_zero, List.set_cons_succ]
  rfl
 refine one_ (i := 0) (N := some 14) #[true, true, true, false, false, false, false, false, false] rfl rfl (by kernel_rfl) (by decide) (fun K hK => ?_)
 refine goes_ Try.func82 (by kernel_rfl) rfl #[] (by rfl) rfl rfl (by (try simp only [List.map_toArray, List.map_cons, List.map_nil]); first | done | rfl) ?_
 refine (acts_of w2).mono ?_
 rintro e w3 ⟨rfl, hmap, hb3⟩
 refine ⟨_, rfl, ?_⟩
 have hS3 : w3.heap[w.heap.size]? = some (.cells #[.int .i64 kind, .int .i64 side, .int .i64 i, .slice Ab nb cb] 72 (0, 0)) := (hb3.block _ (blk_lt hHeld)).trans hHeld
 have HMAP := Lib.hid hmap
 have HB3 := Lib.hid (HBD.out.trans (hb3.mono HBD.out.size))
 have HS3 := Lib.hid hS3
 generalize w2.heap.size = gm at *
 clear hmap hb3 hHeld
 refine hK.out _ _ hS3 (fun hHeld => ?_)
 clear hK K hS3
 refine norm_ (a' := ?_) ?_ ?_
 rotate_left
 ·show Act.put _ (some 14) _ = _
  simp only [Act.put, List.setIfInBounds_toArray, List.set_cons_zero, List.set_cons_succ]
  rfl
 refine one_ (i := 3) (N := some 17) #[true, true, true, true, false, false, false, false, false] rfl rfl (by kernel_rfl) (by decide) (fun K hK => ?_)
 have hlk := look_no HMAP.out HG.out
 refine value_ (v := .tuple #[.nilFunc, .bool false]) (by rfl) rfl (w1 := w3) (by first | (go_simp; done) | (go_simp; rfl)) ?_
 clear hlk
 refine hK.out _ _ hHeld (fun hHeld => ?_)
 clear hK K
 refine norm_ (a' := ?_) ?_ ?_
 rotate_left
 ·show Act.put _ (some 17) _ = _
  simp only [Act.put, List.setIfInBounds_toArray, List.set_cons_zero, List.set_cons_succ]
  rfl
 refine pure_ (i := 4) (N := some 13) (v := ?_) (a' := ?_) #[true, true, true, true, true, false, false, false, false] rfl rfl (by kernel_rfl) (fun _ _ _ h => h) (Or.inl ⟨by rfl, ?_⟩) ?_ ?_
 rotate_left
 ·intro w'
  go_simp
  with_reducible rfl
 rotate_left
 ·simp only [Act.put, List.setIfInBounds_toArray, List.set_cons_zero, List.set_cons_succ]
  rfl
 refine pure_ (i := 5) (N := some 18) (v := ?_) (a' := ?_) #[true, true, true, true, true, true, false, false, false] rfl rfl (by kernel_rfl) (fun _ _ _ h => h) (Or.inl ⟨by rfl, ?_⟩) ?_ ?_
 rotate_left
 ·intro w'
  go_simp
  with_reducible rfl
 rotate_left
 ·simp only [Act.put, List.setIfInBounds_toArray, List.set_cons_zero, List.set_cons_succ]
  rfl
 refine pure_ (i := 6) (N := some 19) (v := ?_) (a' := ?_) #[true, true, true, true, true, true, true, false, false] rfl rfl (by kernel_rfl) (fun _ _ _ h => h) (Or.inl ⟨by rfl, ?_⟩) ?_ ?_
 rotate_left
 ·intro w'
  go_simp
  with_reducible rfl
 rotate_left
 ·simp only [Act.put, List.setIfInBounds_toArray, List.set_cons_zero, List.set_cons_succ]
  rfl
 refine pure_ (i := 7) (N := some 5) (v := ?_) (a' := ?_) #[true, true, true, true, true, true, true, true, false] rfl rfl (by kernel_rfl) (fun _ _ _ h => h) (Or.inl ⟨by rfl, ?_⟩) ?_ ?_
 rotate_left
 ·intro w'
  go_simp
  with_reducible rfl
 rotate_left
 ·simp only [Act.put, List.setIfInBounds_toArray, List.set_cons_zero, List.set_cons_succ]
  rfl
 refine pure_ (i := 8) (N := some 6) (v := ?_) (a' := ?_) #[true, true, true, true, true, true, true, true, true] rfl rfl (by kernel_rfl) (fun _ _ _ h => h) (Or.inl ⟨by rfl, ?_⟩) ?_ ?_
 rotate_left
 ·intro w'
  go_simp
  with_reducible rfl
 rotate_left
 ·simp only [Act.put, List.setIfInBounds_toArray, List.set_cons_zero, List.set_cons_succ]
  rfl
 refine done_ (by kernel_rfl) ?_
 clear hHeld
 have hk0 : w3.cell? ⟨w.heap.size, 0, none⟩ = some (.int .i64 kind) := (blk_cell HS3.out 0).trans rfl
 have hk1 : w3.cell? ⟨w.heap.size, 1, none⟩ = some (.int .i64 side) := (blk_cell HS3.out 1).trans rfl
 have hk2 : w3.cell? ⟨w.heap.size, 2, none⟩ = some (.int .i64 i) := (blk_cell HS3.out 2).trans rfl
 have hk3 : w3.cell? ⟨w.heap.size, 3, none⟩ = some (.slice Ab nb cb) := (blk_cell HS3.out 3).trans rfl
 have hw18 : w3.cell? ⟨gp, 18, none⟩ = some (.slice Aw X.way.length cw) := (blk_cell (H.out.sub HB3.out).blk 18).trans rfl
 go_wp2_with fail
 all_goals (go_ret; exact ⟨rfl, HB3.out⟩)
set_option maxRecDepth 100000 in
set_option maxHeartbeats 4000000 in
theorem do_e2 {w : World} {B gp : Nat} {ge : Nat → Nat} {own : Nat → Nat → Prop} {X : Pr} {lv : Nat → Value} {wv : Value} (h : PAt w B gp ge own X lv wv) (kind side i : Int) (fn : FuncId) (hg1 : kind < 6) (hs0 : side ≠ 0) (hs1 : side ≠ 1) (Ab : Option Addr) (nb cb : Nat) (hlook : ∀ (W : World) (r : Nat), W.heap[r]? = some (.map actsE8 8) → (Instr.lookup 146 (.map (some r)) (.int .i64 kind) true).run Try.prog W = .ok (.tuple #[.func (.func fn) #[] #[], .bool true]) W) :
  Calls Try.prog 41 #[.pointer (some ⟨gp, 0, none⟩), .agg #[.int .i64 kind, .int .i64 side, .int .i64 i, .slice Ab nb cb]] w fun e w' => e = .returned (.int .i64 120) ∧ Below w.heap.size w w' := by
 have hba : Below w.heap.size w (w.alloc (.cells #[.int .i64 kind, .int .i64 side, .int .i64 i, .slice Ab nb cb] 72)) := (Below.refl _ _).alloc (Nat.le_refl _) _
 have hSS : (w.alloc (.cells #[.int .i64 kind, .int .i64 side, .int .i64 i, .slice Ab nb cb] 72)).drew.heap[w.heap.size]? = some (.cells #[.int .i64 kind, .int .i64 side, .int .i64 i, .slice Ab nb cb] 72 (0, 0)) := heap_alloc_new w _
 obtain ⟨Aw, cw, _, hwv, _⟩ := h.way.reads
 subst hwv
 have HSS := Lib.hid hSS
 have HBD0 := Lib.hid (bl_drew hba)
 have H := Lib.hid h
 have HLOOK := Lib.hid hlook
 clear h hba hSS hlook
 go_enter Try.func41, Try.ntmps41
 go_wp2_with fail
 have hSS := HSS.out
 have hbd := HBD0.out
 clear HSS HBD0
 refine start_ (n := 9) (S := fun w' => w'.heap[w.heap.size]? = some (.cells #[.int .i64 kind, .int .i64 side, .int .i64 i, .slice Ab nb cb] 72 (0, 0))) (ds := []) #[false, false, false, false, false, false, false, false, false] (by kernel_rfl) rfl rfl (hSS) (fun hHeld => ?_)
 generalize (w.alloc (.cells #[.int .i64 kind, .int .i64 side, .int .i64 i, .slice Ab nb cb] 72)).drew = w2 at hbd hHeld ⊢
 have HBD := Lib.hid hbd
 clear hbd
 refine pure_ (i := 1) (N := some 15) (v := ?_) (a' := ?_) #[false, true, false, false, false, false, false, false, false] rfl rfl (by kernel_rfl) (fun _ _ _ h => h) (Or.inl ⟨by rfl, ?_⟩) ?_ ?_
 rotate_left
 ·intro w'
  go_simp
  with_reducible rfl
 rotate_left
 ·simp only [Act.put, List.setIfInBounds_toArray, List.set_cons_zero, List.set_cons_succ]
  rfl
 refine take_ (i := 2) (N := some 16) (v := ?_) (a' := ?_) #[false, true, true, false, false, false, false, false, false] rfl rfl (by kernel_rfl) (fun _ _ _ h => h) (Or.inl ⟨by rfl, ?_⟩) hHeld ?_ ?_
 rotate_left
 ·intro w' s0
  have hc0 : w'.cell? ⟨w.heap.size, 0, none⟩ = some (.int .i64 kind) := (blk_cell s0 0).trans rfl
  clear s0
  go_simp
  with_reducible rfl
 rotate_left
 ·simp only [Act.put, List.setIfInBounds_toArray, List.set_cons_zero, List.set_cons_succ]
  rfl
 refine one_ (i := 0) (N := some 14) #[true, true, true, false, false, false, false, false, false] rfl rfl (by kernel_rfl) (by decide) (fun K hK => ?_)
 refine goes_ Try.func82 (by kernel_rfl) rfl #[] (by rfl) rfl rfl (by (try simp only [List.map_toArray, List.map_cons, List.map_nil]); first | done | rfl) ?_
 refine (acts_of w2).mono ?_
 rintro e w3 ⟨rfl, hmap, hb3⟩
 refine ⟨_, rfl, ?_⟩
 have hS3 : w3.heap[w.heap.size]? = some (.cells #[.int .i64 kind, .int .i64 side, .int .i64 i, .slice Ab nb cb] 72 (0, 0)) := (hb3.block _ (blk_lt hHeld)).trans hHeld
 have HMAP := Lib.hid hmap
 have HB3 := Lib.hid (HBD.out.trans (hb3.mono HBD.out.size))
 have HS3 := Lib.hid hS3
 generalize w2.heap.size = gm at *
 clear hmap hb3 hHeld
 refine hK.out _ _ hS3 (fun hHeld => ?_)
 clear hK K hS3
 refine norm_ (a' := ?_) ?_ ?_
 rotate_left
 ·show Act.put _ (some 14) _ = _
  simp only [Act.put, List.setIfInBounds_toArray, List.set_cons_zero, List.set_cons_succ]
  rfl
 refine one_ (i := 3) (N := some 17) #[true, true, true, true, false, false, false, false, false] rfl rfl (by kernel_rfl) (by decide) (fun K hK => ?_)
 have hlk := HLOOK.out w3 gm HMAP.out
 refine value_ (v := .tuple #[.func (.func fn) #[] #[], .bool true]) (by rfl) rfl (w1 := w3) (by first | (go_simp; done) | (go_simp; rfl)) ?_
 clear hlk
 refine hK.out _ _ hHeld (fun hHeld => ?_)
 clear hK K
 refine norm_ (a' := ?_) ?_ ?_
 rotate_left
 ·show Act.put _ (some 17) _ = _
  simp only [Act.put, List.setIfInBounds_toArray, List.set_cons_zero, List.set_cons_succ]
  rfl
 refine pure_ (i := 4) (N := some 13) (v := ?_) (a' := ?_) #[true, true, true, true, true, false, false, false, false] rfl rfl (by kernel_rfl) (fun _ _ _ h => h) (Or.inl ⟨by rfl, ?_⟩) ?_ ?_
 rotate_left
 ·intro w'
  go_simp
  with_reducible rfl
 rotate_left
 ·simp only [Act.put, List.setIfInBounds_toArray, List.set_cons_zero, List.set_cons_succ]
  rfl
 refine pure_ (i := 5) (N := some 18) (v := ?_) (a' := ?_) #[true, true, true, true, true, true, false, false, false] rfl rfl (by kernel_rfl) (fun _ _ _ h => h) (Or.inl ⟨by rfl, ?_⟩) ?_ ?_
 rotate_left
 ·intro w'
  go_simp
  with_reducible rfl
 rotate_left
 ·simp only [Act.put, List.setIfInBounds_toArray, List.set_cons_zero, List.set_cons_succ]
  rfl
 refine pure_ (i := 6) (N := some 19) (v := ?_) (a' := ?_) #[true, true, true, true, true, true, true, false, false] rfl rfl (by kernel_rfl) (fun _ _ _ h => h) (Or.inl ⟨by rfl, ?_⟩) ?_ ?_
 rotate_left
 ·intro w'
  go_simp
  with_reducible rfl
 rotate_left
 ·simp only [Act.put, List.setIfInBounds_toArray, List.set_cons_zero, List.set_cons_succ]
  rfl
 refine pure_ (i := 7) (N := some 5) (v := ?_) (a' := ?_) #[true, true, true, true, true, true, true, true, false] rfl rfl (by kernel_rfl) (fun _ _ _ h => h) (Or.inl ⟨by rfl, ?_⟩) ?_ ?_
 rotate_left
 ·intro w'
  go_simp
  with_reducible rfl
 rotate_left
 ·simp only [Act.put, List.setIfInBounds_toArray, List.set_cons_zero, List.set_cons_succ]
  rfl
 refine pure_ (i := 8) (N := some 6) (v := ?_) (a' := ?_) #[true, true, true, true, true, true, true, true, true] rfl rfl (by kernel_rfl) (fun _ _ _ h => h) (Or.inl ⟨by rfl, ?_⟩) ?_ ?_
 rotate_left
 ·intro w'
  go_simp
  with_reducible rfl
 rotate_left
 ·simp only [Act.put, List.setIfInBounds_toArray, List.set_cons_zero, List.set_cons_succ]
  rfl
 refine done_ (by kernel_rfl) ?_
 clear hHeld
 have hk0 : w3.cell? ⟨w.heap.size, 0, none⟩ = some (.int .i64 kind) := (blk_cell HS3.out 0).trans rfl
 have hk1 : w3.cell? ⟨w.heap.size, 1, none⟩ = some (.int .i64 side) := (blk_cell HS3.out 1).trans rfl
 have hk2 : w3.cell? ⟨w.heap.size, 2, none⟩ = some (.int .i64 i) := (blk_cell HS3.out 2).trans rfl
 have hk3 : w3.cell? ⟨w.heap.size, 3, none⟩ = some (.slice Ab nb cb) := (blk_cell HS3.out 3).trans rfl
 have hw18 : w3.cell? ⟨gp, 18, none⟩ = some (.slice Aw X.way.length cw) := (blk_cell (H.out.sub HB3.out).blk 18).trans rfl
 have hg6 : decide (kind < 6) = true := by simp [hg1]
 have hq0 : (side != 0) = true := by simp [hs0]
 have hq1 : (side != 1) = true := by simp [hs1]
 go_wp2_with fail
 all_goals (go_ret; exact ⟨rfl, HB3.out⟩)
set_option maxRecDepth 100000 in
set_option maxHeartbeats 4000000 in
theorem do_e3 {w : World} {B gp : Nat} {ge : Nat → Nat} {own : Nat → Nat → Prop} {X : Pr} {lv : Nat → Value} {wv : Value} (h : PAt w B gp ge own X lv wv) (kind side i : Int) (fn : FuncId) (hg1 : ¬ kind < 6) (hi : i < 0 ∨ (X.way.length : Int) ≤ i) (Ab : Option Addr) (nb cb : Nat) (hlook : ∀ (W : World) (r : Nat), W.heap[r]? = some (.map actsE8 8) → (Instr.lookup 146 (.map (some r)) (.int .i64 kind) true).run Try.prog W = .ok (.tuple #[.func (.func fn) #[] #[], .bool true]) W) :
  Calls Try.prog 41 #[.pointer (some ⟨gp, 0, none⟩), .agg #[.int .i64 kind, .int .i64 side, .int .i64 i, .slice Ab nb cb]] w fun e w' => e = .returned (.int .i64 122) ∧ Below w.heap.size w w' := by
 have hba : Below w.heap.size w (w.alloc (.cells #[.int .i64 kind, .int .i64 side, .int .i64 i, .slice Ab nb cb] 72)) := (Below.refl _ _).alloc (Nat.le_refl _) _
 have hSS : (w.alloc (.cells #[.int .i64 kind, .int .i64 side, .int .i64 i, .slice Ab nb cb] 72)).drew.heap[w.heap.size]? = some (.cells #[.int .i64 kind, .int .i64 side, .int .i64 i, .slice Ab nb cb] 72 (0, 0)) := heap_alloc_new w _
 obtain ⟨Aw, cw, _, hwv, _⟩ := h.way.reads
 subst hwv
 have HSS := Lib.hid hSS
 have HBD0 := Lib.hid (bl_drew hba)
 have H := Lib.hid h
 have HLOOK := Lib.hid hlook
 clear h hba hSS hlook
 go_enter Try.func41, Try.ntmps41
 go_wp2_with fail
 have hSS := HSS.out
 have hbd := HBD0.out
 clear HSS HBD0
 refine start_ (n := 9) (S := fun w' => w'.heap[w.heap.size]? = some (.cells #[.int .i64 kind, .int .i64 side, .int .i64 i, .slice Ab nb cb] 72 (0, 0))) (ds := []) #[false, false, false, false, false, false, false, false, false] (by kernel_rfl) rfl rfl (hSS) (fun hHeld => ?_)
 generalize (w.alloc (.cells #[.int .i64 kind, .int .i64 side, .int .i64 i, .slice Ab nb cb] 72)).drew = w2 at hbd hHeld ⊢
 have HBD := Lib.hid hbd
 clear hbd
 refine pure_ (i := 1) (N := some 15) (v := ?_) (a' := ?_) #[false, true, false, false, false, false, false, false, false] rfl rfl (by kernel_rfl) (fun _ _ _ h => h) (Or.inl ⟨by rfl, ?_⟩) ?_ ?_
 rotate_left
 ·intro w'
  go_simp
  with_reducible rfl
 rotate_left
 ·simp only [Act.put, List.setIfInBounds_toArray, List.set_cons_zero, List.set_cons_succ]
  rfl
 refine take_ (i := 2) (N := some 16) (v := ?_) (a' := ?_) #[false, true, true, false, false, false, false, false, false] rfl rfl (by kernel_rfl) (fun _ _ _ h => h) (Or.inl ⟨by rfl, ?_⟩) hHeld ?_ ?_
 rotate_left
 ·intro w' s0
  have hc0 : w'.cell? ⟨w.heap.size, 0, none⟩ = some (.int .i64 kind) := (blk_cell s0 0).trans rfl
  clear s0
  go_simp
  with_reducible rfl
 rotate_left
 ·simp only [Act.put, List.setIfInBounds_toArray, List.set_cons_zero, List.set_cons_succ]
  rfl
 refine one_ (i := 0) (N := some 14) #[true, true, true, false, false, false, false, false, false] rfl rfl (by kernel_rfl) (by decide) (fun K hK => ?_)
 refine goes_ Try.func82 (by kernel_rfl) rfl #[] (by rfl) rfl rfl (by (try simp only [List.map_toArray, List.map_cons, List.map_nil]); first | done | rfl) ?_
 refine (acts_of w2).mono ?_
 rintro e w3 ⟨rfl, hmap, hb3⟩
 refine ⟨_, rfl, ?_⟩
 have hS3 : w3.heap[w.heap.size]? = some (.cells #[.int .i64 kind, .int .i64 side, .int .i64 i, .slice Ab nb cb] 72 (0, 0)) := (hb3.block _ (blk_lt hHeld)).trans hHeld
 have HMAP := Lib.hid hmap
 have HB3 := Lib.hid (HBD.out.trans (hb3.mono HBD.out.size))
 have HS3 := Lib.hid hS3
 generalize w2.heap.size = gm at *
 clear hmap hb3 hHeld
 refine hK.out _ _ hS3 (fun hHeld => ?_)
 clear hK K hS3
 refine norm_ (a' := ?_) ?_ ?_
 rotate_left
 ·show Act.put _ (some 14) _ = _
  simp only [Act.put, List.setIfInBounds_toArray, List.set_cons_zero, List.set_cons_succ]
  rfl
 refine one_ (i := 3) (N := some 17) #[true, true, true, true, false, false, false, false, false] rfl rfl (by kernel_rfl) (by decide) (fun K hK => ?_)
 have hlk := HLOOK.out w3 gm HMAP.out
 refine value_ (v := .tuple #[.func (.func fn) #[] #[], .bool true]) (by rfl) rfl (w1 := w3) (by first | (go_simp; done) | (go_simp; rfl)) ?_
 clear hlk
 refine hK.out _ _ hHeld (fun hHeld => ?_)
 clear hK K
 refine norm_ (a' := ?_) ?_ ?_
 rotate_left
 ·show Act.put _ (some 17) _ = _
  simp only [Act.put, List.setIfInBounds_toArray, List.set_cons_zero, List.set_cons_succ]
  rfl
 refine pure_ (i := 4) (N := some 13) (v := ?_) (a' := ?_) #[true, true, true, true, true, false, false, false, false] rfl rfl (by kernel_rfl) (fun _ _ _ h => h) (Or.inl ⟨by rfl, ?_⟩) ?_ ?_
 rotate_left
 ·intro w'
  go_simp
  with_reducible rfl
 rotate_left
 ·simp only [Act.put, List.setIfInBounds_toArray, List.set_cons_zero, List.set_cons_succ]
  rfl
 refine pure_ (i := 5) (N := some 18) (v := ?_) (a' := ?_) #[true, true, true, true, true, true, false, false, false] rfl rfl (by kernel_rfl) (fun _ _ _ h => h) (Or.inl ⟨by rfl, ?_⟩) ?_ ?_
 rotate_left
 ·intro w'
  go_simp
  with_reducible rfl
 rotate_left
 ·simp only [Act.put, List.setIfInBounds_toArray, List.set_cons_zero, List.set_cons_succ]
  rfl
 refine pure_ (i := 6) (N := some 19) (v := ?_) (a' := ?_) #[true, true, true, true, true, true, true, false, false] rfl rfl (by kernel_rfl) (fun _ _ _ h => h) (Or.inl ⟨by rfl, ?_⟩) ?_ ?_
 rotate_left
 ·intro w'
  go_simp
  with_reducible rfl
 rotate_left
 ·simp only [Act.put, List.setIfInBounds_toArray, List.set_cons_zero, List.set_cons_succ]
  rfl
 refine pure_ (i := 7) (N := some 5) (v := ?_) (a' := ?_) #[true, true, true, true, true, true, true, true, false] rfl rfl (by kernel_rfl) (fun _ _ _ h => h) (Or.inl ⟨by rfl, ?_⟩) ?_ ?_
 rotate_left
 ·intro w'
  go_simp
  with_reducible rfl
 rotate_left
 ·simp only [Act.put, List.setIfInBounds_toArray, List.set_cons_zero, List.set_cons_succ]
  rfl
 refine pure_ (i := 8) (N := some 6) (v := ?_) (a' := ?_) #[true, true, true, true, true, true, true, true, true] rfl rfl (by kernel_rfl) (fun _ _ _ h => h) (Or.inl ⟨by rfl, ?_⟩) ?_ ?_
 rotate_left
 ·intro w'
  go_simp
  with_reducible rfl
 rotate_left
 ·simp only [Act.put, List.setIfInBounds_toArray, List.set_cons_zero, List.set_cons_succ]
  rfl
 refine done_ (by kernel_rfl) ?_
 clear hHeld
 have hk0 : w3.cell? ⟨w.heap.size, 0, none⟩ = some (.int .i64 kind) := (blk_cell HS3.out 0).trans rfl
 have hk1 : w3.cell? ⟨w.heap.size, 1, none⟩ = some (.int .i64 side) := (blk_cell HS3.out 1).trans rfl
 have hk2 : w3.cell? ⟨w.heap.size, 2, none⟩ = some (.int .i64 i) := (blk_cell HS3.out 2).trans rfl
 have hk3 : w3.cell? ⟨w.heap.size, 3, none⟩ = some (.slice Ab nb cb) := (blk_cell HS3.out 3).trans rfl
 have hw18 : w3.cell? ⟨gp, 18, none⟩ = some (.slice Aw X.way.length cw) := (blk_cell (H.out.sub HB3.out).blk 18).trans rfl
 have hg6 : decide (kind < 6) = false := by simp [hg1]
 have hg7 : decide (kind ≥ 6) = true := by simp; omega
 by_cases hi0 : i < 0
 ·have hi1 : decide (i < 0) = true := by simp [hi0]
  go_wp2_with fail
  go_quiet (fail)
  rename Nat => nq1
  go_wp2_with fail
  all_goals (go_ret; exact ⟨rfl, bl_drewN HB3.out nq1⟩)
 ·have hi1 : decide (i < 0) = false := by simp; omega
  have hi2 : decide (i ≥ (X.way.length : Int)) = true := by simp; omega
  go_wp2_with fail
  go_quiet (fail)
  rename Nat => nq1
  go_wp2_with fail
  all_goals (go_ret; exact ⟨rfl, bl_drewN HB3.out nq1⟩)
end Go.Proofs.Ytnkkgofpifhoeaa.Pr
end
section
namespace Go.Proofs.Ytnkkgofpifhoeaa.Pr
open Go.RowKit Go.Proofs.Ytnkkgofpifhoeaa.Base Go.Proofs.Ytnkkgofpifhoeaa.Lk Go.Proofs.Ytnkkgofpifhoeaa.Win Go.Proofs.YtnkkgofpifhoeaaW.PrintWords
theorem WTurn.same {w w' : World} {B gp : Nat} {U : Nat → Prop} {X : Pr} (h : Whole w B gp U X) (hb : Below w.heap.size w w') : WTurn w B gp U X w' :=
 ⟨(h.sub hb).mono (fun k hk => .inl hk), Kept.of_below hb _, hb.mono h.hB⟩
theorem take_forms {X : Pr} {N : Nat} (hI : Inv X N) {f : Fl} (hf : FlI X f) : ∃ L' hd, takeF (X.sd f.dst.toNat).end_ f.boot f.p = (L', ⟨hd, false, false, []⟩) ∨ takeF (X.sd f.dst.toNat).end_ f.boot f.p = (L', ⟨hd, true, false, []⟩) ∨ takeF (X.sd f.dst.toNat).end_ f.boot f.p = (L', ⟨hd, false, true, []⟩) ∨
  ∃ body, takeF (X.sd f.dst.toNat).end_ f.boot f.p = (L', ⟨hd, false, false, body⟩) ∧ body.length ≤ 1000000 ∧ 0 < body.length := by
 have hs : f.dst.toNat < 2 := by have := hf.dst; omega
 have hd := hI.p.side _ hs
 obtain ⟨hc, _⟩ := take_turn hd.fine.ok (hI.out _ hs) f.boot f.p
 have hgc := good_cases hf.good
 have hgl := hf.good.len
 generalize hL : (takeF (X.sd f.dst.toNat).end_ f.boot f.p).1 = L' at hc
 generalize hT : (takeF (X.sd f.dst.toNat).end_ f.boot f.p).2 = t at hc
 have hx : takeF (X.sd f.dst.toNat).end_ f.boot f.p = (L', t) := by rw [← hL, ← hT]
 rw [hx]
 cases hc with
 | none _ => exact ⟨_, _, .inl rfl⟩
 | up h1 hk ha hm hss hy => exact ⟨_, _, .inr (.inl rfl)⟩
 | learn h1 hk ha hm hss hy => exact ⟨_, _, .inl rfl⟩
 | again h2 hk ha h0 hss hy => exact ⟨_, _, .inl rfl⟩
 | last h2 hk ha ht => exact ⟨_, _, .inr (.inr (.inl rfl))⟩
 | anew h2 hk ha ht hss hy => exact ⟨_, _, .inr (.inr (.inl rfl))⟩
 | signal h2 hk ha hm k hkk hxx hy =>
  by_cases hg : f.p.kind = 2 ∧ f.p.seq = (X.sd f.dst.toNat).end_.expected
  ·have hb : upB (X.sd f.dst.toNat).end_ f.p = f.p.body := by unfold upB; rw [if_pos hg]
   rw [hb]
   exact ⟨_, _, .inr (.inr (.inr ⟨_, rfl, by omega, hgc.2 hg.1⟩))⟩
  ·have hb : upB (X.sd f.dst.toNat).end_ f.p = [] := by unfold upB; rw [if_neg hg]
   rw [hb]
   exact ⟨_, _, .inl rfl⟩
theorem deliver_w {w : World} {B gp N : Nat} {ge : Nat → Nat} {own : Nat → Nat → Prop} {X : Pr} {lv : Nat → Value} {wv : Value} (h : PAt w B gp ge own X lv wv) (hI : Inv X N) (hN : N ≤ 900000) (i : Nat) (hi : i < X.way.length) (kind side : Int) (vb : Value) :
  Calls Try.prog 112 #[.pointer (some ⟨gp, 0, none⟩), .agg #[.int .i64 kind, .int .i64 side, .int .i64 (i : Int), vb]] w fun e w' => e = .returned (.int .i64 0) ∧ ∃ S : Nat → Prop, (∀ k, S k → k = gp ∨ ∃ j, own j k) ∧ Moves w B gp ge own (deliverX X i) S w' := by
 have hmem : X.way.getD i nilF ∈ X.way := by
  rw [List.getD_eq_getElem?_getD, List.getElem?_eq_getElem hi]
  exact List.getElem_mem hi
 have hf := hI.p.fl _ hmem
 have hw := hI.p.way
 obtain ⟨L', hd, hT⟩ := take_forms hI hf
 have hS : ∀ s, ∀ k, (k = gp ∨ own (1 + s) k ∨ own (3 + s) k) → k = gp ∨ ∃ j, own j k := fun s k hk => hk.elim .inl (fun x => x.elim (fun y => .inr ⟨_, y⟩) (fun y => .inr ⟨_, y⟩))
 unfold deliverX
 generalize hff : X.way.getD i nilF = f at *
 obtain ⟨dst, bt, p⟩ := f
 have hbt : 0 < bt ∧ bt < 4294967296 := hf.boot
 have hg : p.Good := hf.good
 have hdst : dst = 0 ∨ dst = 1 := hf.dst
 have hl : ∀ s, s < 2 → (X.sd s).log.length ≤ 1000000 := fun s hs => by have := (hI.p.side s hs).len; omega
 have hok : ∀ s, s < 2 → (X.sd s).end_.Ok := fun s hs => (hI.p.side s hs).fine.ok
 rcases hdst with rfl | rfl
 ·rcases hT with hT | hT | hT | ⟨body, hT, hb1, hb2⟩
  ·refine (deliver_n_0 h i hi hw bt p hff hbt hg (hok 0 (by decide)) (hl 0 (by decide)) kind side vb L' hd hT).mono fun e w' hq => ⟨hq.1, _, hS 0, ?_⟩
   rw [hT]; exact hq.2
  ·refine (deliver_u_0 h i hi hw bt p hff hbt hg (hok 0 (by decide)) (hl 0 (by decide)) kind side vb L' hd hT).mono fun e w' hq => ⟨hq.1, _, hS 0, ?_⟩
   rw [hT]; exact hq.2
  ·refine (deliver_d_0 h i hi hw bt p hff hbt hg (hok 0 (by decide)) (hl 0 (by decide)) kind side vb L' hd hT).mono fun e w' hq => ⟨hq.1, _, hS 0, ?_⟩
   rw [hT]; exact hq.2
  ·refine (deliver_g_0 h i hi hw bt p hff hbt hg (hok 0 (by decide)) (hl 0 (by decide)) kind side vb L' hd body hb1 hb2 hT).mono fun e w' hq => ⟨hq.1, _, hS 0, ?_⟩
   rw [hT]
   have e1 : takeS (X.sd 0) (L', ⟨hd, false, false, body⟩) = noteF (endF (X.sd 0) L') 4 body := by
    unfold takeS
    rw [if_neg (show ¬ false = true by decide), if_neg (show ¬ false = true by decide), if_pos hb2]
   show Moves w B gp ge own (({ X with way := X.way.eraseIdx i } : Pr).set 0 (takeS (X.sd 0) (L', ⟨hd, false, false, body⟩))) _ w'
   rw [e1]; exact hq.2
 ·rcases hT with hT | hT | hT | ⟨body, hT, hb1, hb2⟩
  ·refine (deliver_n_1 h i hi hw bt p hff hbt hg (hok 1 (by decide)) (hl 1 (by decide)) kind side vb L' hd hT).mono fun e w' hq => ⟨hq.1, _, hS 1, ?_⟩
   rw [hT]; exact hq.2
  ·refine (deliver_u_1 h i hi hw bt p hff hbt hg (hok 1 (by decide)) (hl 1 (by decide)) kind side vb L' hd hT).mono fun e w' hq => ⟨hq.1, _, hS 1, ?_⟩
   rw [hT]; exact hq.2
  ·refine (deliver_d_1 h i hi hw bt p hff hbt hg (hok 1 (by decide)) (hl 1 (by decide)) kind side vb L' hd hT).mono fun e w' hq => ⟨hq.1, _, hS 1, ?_⟩
   rw [hT]; exact hq.2
  ·refine (deliver_g_1 h i hi hw bt p hff hbt hg (hok 1 (by decide)) (hl 1 (by decide)) kind side vb L' hd body hb1 hb2 hT).mono fun e w' hq => ⟨hq.1, _, hS 1, ?_⟩
   rw [hT]
   have e1 : takeS (X.sd 1) (L', ⟨hd, false, false, body⟩) = noteF (endF (X.sd 1) L') 4 body := by
    unfold takeS
    rw [if_neg (show ¬ false = true by decide), if_neg (show ¬ false = true by decide), if_pos hb2]
   show Moves w B gp ge own (({ X with way := X.way.eraseIdx i } : Pr).set 1 (takeS (X.sd 1) (L', ⟨hd, false, false, body⟩))) _ w'
   rw [e1]; exact hq.2
def BodyAt (w : World) (gp : Nat) (U : Nat → Prop) (Ab : Option Addr) (body : List Int) : Prop := ∀ W' : World, Kept w W' (fun k => k = gp ∨ U k) → (Kd.int .u8).C W' Ab body.length body
section
variable {w : World} {B gp N : Nat} {U : Nat → Prop} {X : Pr} (h : Whole w B gp U X) (hI : Inv X N) (hN : N ≤ 900000)
include h hI hN
theorem do_lo (kind side i : Int) (body : List Int) (Ab : Option Addr) (cb : Nat) (hb : badA X ⟨kind, side, i, body⟩ = 0) (hk6 : kind < 6) (hbl : body.length ≤ 1000000) (hC : kind = 3 → BodyAt w gp U Ab body) :
  Calls Try.prog 41 #[.pointer (some ⟨gp, 0, none⟩), .agg #[.int .i64 kind, .int .i64 side, .int .i64 i, .slice Ab body.length cb]] w fun e w' => e = .returned (.int .i64 (actE X ⟨kind, side, i, body⟩)) ∧ WTurn w B gp U (pumpX (pumpX (actX X ⟨kind, side, i, body⟩) 0) 1) w' := by
 have hact := act_inv hI (by omega) hb
 have hoy : ∀ s, s < 2 → ((actX X ⟨kind, side, i, body⟩).sd s).end_.Ok := fun s hs => (hact.side s hs).fine.ok
 have hwy := hact.way
 obtain ⟨hk, hsd, _⟩ := badA_side hb
 obtain ⟨ge, own, lv, wv, hP, hU⟩ := h
 have hok : ∀ s, s < 2 → (X.sd s).end_.Ok := fun s hs => (hI.p.side s hs).fine.ok
 have hl : ∀ s, s < 2 → (X.sd s).log.length ≤ 1000000 := fun s hs => by have := (hI.p.side s hs).len; omega
 have hbo : ∀ s, s < 2 → 0 < (X.sd s).boot ∧ (X.sd s).boot < 4294967296 := fun s hs => by
  rw [(hI.p.side s hs).boot]; exact ⟨(hI.p.side s hs).fine.own, (hI.p.side s hs).fine.ok.own.2⟩
 have hs01 : side = 0 ∨ side = 1 := hsd hk6
 have hkk : kind = 1 ∨ kind = 2 ∨ kind = 3 ∨ kind = 4 ∨ kind = 5 := by have := hk.1; simp only at this; omega
 have hO : ∀ j, ∀ k, own j k → k = gp ∨ U k := fun j k hx => .inr (hU j k hx)
 have hS3 : ∀ a b, ∀ k, (k = gp ∨ own a k ∨ own b k) → k = gp ∨ U k := fun a b k hk => hk.elim .inl (fun x => x.elim (fun y => .inr (hU _ _ y)) (fun y => .inr (hU _ _ y)))
 have hbody : kind = 3 → ∀ s, ∀ w', Below w.heap.size w w' → ∀ W' : World, Kept w' W' (fun k => k = gp ∨ own (1 + s) k ∨ own (3 + s) k) → (Kd.int .u8).C W' Ab body.length body := fun h3 s w' hbw W' hkw =>
  hC h3 W' ((Kept.of_below hbw _).then_ hkw (fun k hx => .inl (hS3 _ _ k hx)))
 rcases hkk with rfl | rfl | rfl | rfl | rfl <;> rcases hs01 with rfl | rfl
 ·exact do_a0 hP 1 i (by decide) Ab body.length cb 107 _ Try.func107 (by kernel_rfl) rfl _ (fun W r hm => look_1 hm) (fun w' hbw => (open_0 (hP.sub hbw) (hok 0 (by decide)) 1 i _).mono fun e w'' hq => ⟨hq.1, hq.2.whole hU (hO _)⟩) hoy hwy
 ·exact do_a1 hP 1 i (by decide) Ab body.length cb 107 _ Try.func107 (by kernel_rfl) rfl _ (fun W r hm => look_1 hm) (fun w' hbw => (open_1 (hP.sub hbw) (hok 1 (by decide)) 1 i _).mono fun e w'' hq => ⟨hq.1, hq.2.whole hU (hO _)⟩) hoy hwy
 ·refine do_a0 hP 2 i (by decide) Ab body.length cb 108 _ Try.func108 (by kernel_rfl) rfl _ (fun W r hm => look_2 hm) (fun w' hbw => ?_) hoy hwy
  by_cases h2 : (X.sd 0).end_.phase = 2
  ·refine (shut_up_0 (hP.sub hbw) 2 i _ (hl 0 (by decide)) h2).mono fun e w'' hq => ⟨hq.1, ?_⟩
   have hm := hq.2.whole hU (hS3 _ _)
   show WTurn _ B gp U (X.set 0 (shutS (X.sd 0))) _
   unfold shutS; rw [if_pos h2]; exact hm
  ·refine (shut_no_0 (hP.sub hbw) 2 i _ (hl 0 (by decide)) h2).mono fun e w'' hq => ⟨hq.1, ?_⟩
   have hm := hq.2.whole hU (hS3 _ _)
   show WTurn _ B gp U (X.set 0 (shutS (X.sd 0))) _
   unfold shutS; rw [if_neg h2]; exact hm
 ·refine do_a1 hP 2 i (by decide) Ab body.length cb 108 _ Try.func108 (by kernel_rfl) rfl _ (fun W r hm => look_2 hm) (fun w' hbw => ?_) hoy hwy
  by_cases h2 : (X.sd 1).end_.phase = 2
  ·refine (shut_up_1 (hP.sub hbw) 2 i _ (hl 1 (by decide)) h2).mono fun e w'' hq => ⟨hq.1, ?_⟩
   have hm := hq.2.whole hU (hS3 _ _)
   show WTurn _ B gp U (X.set 1 (shutS (X.sd 1))) _
   unfold shutS; rw [if_pos h2]; exact hm
  ·refine (shut_no_1 (hP.sub hbw) 2 i _ (hl 1 (by decide)) h2).mono fun e w'' hq => ⟨hq.1, ?_⟩
   have hm := hq.2.whole hU (hS3 _ _)
   show WTurn _ B gp U (X.set 1 (shutS (X.sd 1))) _
   unfold shutS; rw [if_neg h2]; exact hm
 ·refine do_a0 hP 3 i (by decide) Ab body.length cb 109 _ Try.func109 (by kernel_rfl) rfl _ (fun W r hm => look_3 hm) (fun w' hbw => ?_) hoy hwy
  by_cases hE : sendE (X.sd 0).end_ body.length = 0
  ·refine (send_ok_0 (hP.sub hbw) (hok 0 (by decide)) 3 i body Ab cb (hbody rfl 0 w' hbw) hbl (hl 0 (by decide)) hE).mono fun e w'' hq => ⟨hq.1, ?_⟩
   have hm := hq.2.whole hU (hS3 _ _)
   show WTurn _ B gp U (X.set 0 (sendS (X.sd 0) body)) _
   unfold sendS; rw [if_pos hE]; exact hm
  ·refine (send_no_0 (hP.sub hbw) (hok 0 (by decide)) 3 i body Ab cb (hbody rfl 0 w' hbw) hbl (hl 0 (by decide)) hE).mono fun e w'' hq => ⟨hq.1, ?_⟩
   have hm := hq.2.whole hU (hS3 _ _)
   show WTurn _ B gp U (X.set 0 (sendS (X.sd 0) body)) _
   unfold sendS; rw [if_neg hE]; exact hm
 ·refine do_a1 hP 3 i (by decide) Ab body.length cb 109 _ Try.func109 (by kernel_rfl) rfl _ (fun W r hm => look_3 hm) (fun w' hbw => ?_) hoy hwy
  by_cases hE : sendE (X.sd 1).end_ body.length = 0
  ·refine (send_ok_1 (hP.sub hbw) (hok 1 (by decide)) 3 i body Ab cb (hbody rfl 1 w' hbw) hbl (hl 1 (by decide)) hE).mono fun e w'' hq => ⟨hq.1, ?_⟩
   have hm := hq.2.whole hU (hS3 _ _)
   show WTurn _ B gp U (X.set 1 (sendS (X.sd 1) body)) _
   unfold sendS; rw [if_pos hE]; exact hm
  ·refine (send_no_1 (hP.sub hbw) (hok 1 (by decide)) 3 i body Ab cb (hbody rfl 1 w' hbw) hbl (hl 1 (by decide)) hE).mono fun e w'' hq => ⟨hq.1, ?_⟩
   have hm := hq.2.whole hU (hS3 _ _)
   show WTurn _ B gp U (X.set 1 (sendS (X.sd 1) body)) _
   unfold sendS; rw [if_neg hE]; exact hm
 ·exact do_a0 hP 4 i (by decide) Ab body.length cb 110 _ Try.func110 (by kernel_rfl) rfl _ (fun W r hm => look_4 hm) (fun w' hbw => (tick_0 (hP.sub hbw) (hok 0 (by decide)) 4 i _).mono fun e w'' hq => ⟨hq.1, hq.2.whole hU (hO _)⟩) hoy hwy
 ·exact do_a1 hP 4 i (by decide) Ab body.length cb 110 _ Try.func110 (by kernel_rfl) rfl _ (fun W r hm => look_4 hm) (fun w' hbw => (tick_1 (hP.sub hbw) (hok 1 (by decide)) 4 i _).mono fun e w'' hq => ⟨hq.1, hq.2.whole hU (hO _)⟩) hoy hwy
 ·refine do_a0 hP 5 i (by decide) Ab body.length cb 111 _ Try.func111 (by kernel_rfl) rfl _ (fun W r hm => look_5 hm) (fun w' hbw => ?_) hoy hwy
  have hb0 := hbo 0 (by decide)
  by_cases hm : (X.sd 0).boot = 4294967295
  ·refine (reboot_max_0 (hP.sub hbw) hU 5 i _ (by omega) hm).mono fun e w'' hq => ⟨?_, ?_⟩
   ·rw [hq.1]; show _ = Ending.returned (.int .i64 (if (X.sd 0).boot = 4294967295 then 2 else 0)); rw [if_pos hm]
   ·show WTurn _ B gp U (X.set 0 (rebootS (X.sd 0))) _
    unfold rebootS; rw [if_pos hm, set_self]; exact hq.2
  ·refine (reboot_new_0 (hP.sub hbw) hU 5 i _ (by omega) (by omega) (hl 0 (by decide))).mono fun e w'' hq => ⟨?_, ?_⟩
   ·rw [hq.1]; show _ = Ending.returned (.int .i64 (if (X.sd 0).boot = 4294967295 then 2 else 0)); rw [if_neg hm]
   ·show WTurn _ B gp U (X.set 0 (rebootS (X.sd 0))) _
    unfold rebootS; rw [if_neg hm]; exact hq.2
 ·refine do_a1 hP 5 i (by decide) Ab body.length cb 111 _ Try.func111 (by kernel_rfl) rfl _ (fun W r hm => look_5 hm) (fun w' hbw => ?_) hoy hwy
  have hb0 := hbo 1 (by decide)
  by_cases hm : (X.sd 1).boot = 4294967295
  ·refine (reboot_max_1 (hP.sub hbw) hU 5 i _ (by omega) hm).mono fun e w'' hq => ⟨?_, ?_⟩
   ·rw [hq.1]; show _ = Ending.returned (.int .i64 (if (X.sd 1).boot = 4294967295 then 2 else 0)); rw [if_pos hm]
   ·show WTurn _ B gp U (X.set 1 (rebootS (X.sd 1))) _
    unfold rebootS; rw [if_pos hm, set_self]; exact hq.2
  ·refine (reboot_new_1 (hP.sub hbw) hU 5 i _ (by omega) (by omega) (hl 1 (by decide))).mono fun e w'' hq => ⟨?_, ?_⟩
   ·rw [hq.1]; show _ = Ending.returned (.int .i64 (if (X.sd 1).boot = 4294967295 then 2 else 0)); rw [if_neg hm]
   ·show WTurn _ B gp U (X.set 1 (rebootS (X.sd 1))) _
    unfold rebootS; rw [if_neg hm]; exact hq.2
theorem do_hi (kind side : Int) (j : Nat) (body : List Int) (Ab : Option Addr) (nb cb : Nat) (hb : badA X ⟨kind, side, (j : Int), body⟩ = 0) (hk6 : ¬ kind < 6) :
  Calls Try.prog 41 #[.pointer (some ⟨gp, 0, none⟩), .agg #[.int .i64 kind, .int .i64 side, .int .i64 (j : Int), .slice Ab nb cb]] w fun e w' => e = .returned (.int .i64 0) ∧ WTurn w B gp U (pumpX (pumpX (actX X ⟨kind, side, (j : Int), body⟩) 0) 1) w' := by
 have hact := act_inv hI (by omega) hb
 have hoy : ∀ s, s < 2 → ((actX X ⟨kind, side, (j : Int), body⟩).sd s).end_.Ok := fun s hs => (hact.side s hs).fine.ok
 have hwy := hact.way
 obtain ⟨hk, _, hi⟩ := badA_side hb
 have hj : j < X.way.length := by have := (hi (by show 6 ≤ kind; omega)).2; simpa using this
 have hw := hI.p.way
 obtain ⟨ge, own, lv, wv, hP, hU⟩ := h
 have hkk : kind = 6 ∨ kind = 7 ∨ kind = 8 := by have := hk.2; simp only at this; omega
 rcases hkk with rfl | rfl | rfl
 ·refine do_b hP 6 side j (by decide) hj Ab nb cb 112 _ Try.func112 (by kernel_rfl) rfl _ (fun W r hm => look_6 hm) (fun w' hbw => (deliver_w (hP.sub hbw) hI hN j hj 6 side _).mono fun e w'' hq => ⟨hq.1, ?_⟩) hoy hwy
  obtain ⟨S, hS, hM⟩ := hq.2
  exact hM.whole hU (fun k hk => (hS k hk).elim .inl (fun ⟨a, x⟩ => .inr (hU _ _ x)))
 ·exact do_b hP 7 side j (by decide) hj Ab nb cb 113 _ Try.func113 (by kernel_rfl) rfl _ (fun W r hm => look_7 hm) (fun w' hbw => (drop_p (hP.sub hbw) j hj hw 7 side _).mono fun e w'' hq => ⟨hq.1, hq.2.whole hU (fun k hk => .inl hk)⟩) hoy hwy
 ·exact do_b hP 8 side j (by decide) hj Ab nb cb 114 _ Try.func114 (by kernel_rfl) rfl _ (fun W r hm => look_8 hm) (fun w' hbw => (twin_p (hP.sub hbw) j hj hw 8 side _).mono fun e w'' hq => ⟨hq.1, hq.2.whole hU (fun k hk => hk.elim .inl (fun x => .inr (hU _ _ x)))⟩) hoy hwy
theorem do_w (a : Act) (Ab : Option Addr) (cb : Nat) (hbl : a.body.length ≤ 1000000) (hC : a.kind = 3 → BodyAt w gp U Ab a.body) :
  Calls Try.prog 41 #[.pointer (some ⟨gp, 0, none⟩), .agg #[.int .i64 a.kind, .int .i64 a.side, .int .i64 a.i, .slice Ab a.body.length cb]] w fun e w' => e = .returned (.int .i64 (doE X a)) ∧ WTurn w B gp U (doX X a) w' := by
 obtain ⟨kind, side, i, body⟩ := a
 by_cases hb : badA X ⟨kind, side, i, body⟩ = 0
 ·unfold doE doX
  rw [if_pos hb, if_pos hb]
  by_cases hk6 : kind < 6
  ·exact do_lo h hI hN kind side i body Ab cb hb hk6 hbl hC
  ·obtain ⟨hk, _, hi⟩ := badA_side hb
   have hi' := hi (by show 6 ≤ kind; omega)
   obtain ⟨j, hj⟩ : ∃ j : Nat, i = (j : Int) := ⟨i.toNat, by have : (0 : Int) ≤ i := hi'.1; omega⟩
   subst hj
   have hE : actE X ⟨kind, side, (j : Int), body⟩ = 0 := by
    unfold actE
    rw [if_neg (show ¬ kind = 1 by omega), if_neg (show ¬ kind = 3 by omega), if_neg (show ¬ kind = 5 by omega)]
   rw [hE]
   exact do_hi h hI hN kind side j body Ab _ cb hb hk6
 ·unfold doE doX
  rw [if_neg hb, if_neg hb]
  have hW := h
  obtain ⟨ge, own, lv, wv, hP, hU⟩ := h
  unfold badA at hb ⊢
  split
  ·rename_i h1
   exact (do_e1 hP kind side i h1 Ab _ cb).mono fun e w' hq => ⟨hq.1, WTurn.same hW hq.2⟩
  rename_i h1
  rw [if_neg h1] at hb
  have hkk : kind = 1 ∨ kind = 2 ∨ kind = 3 ∨ kind = 4 ∨ kind = 5 ∨ kind = 6 ∨ kind = 7 ∨ kind = 8 := by simp only at h1; omega
  have hlook : ∃ fn : FuncId, ∀ (W : World) (r : Nat), W.heap[r]? = some (.map actsE8 8) → (Instr.lookup 146 (.map (some r)) (.int .i64 kind) true).run Try.prog W = .ok (.tuple #[.func (.func fn) #[] #[], .bool true]) W := by
   rcases hkk with rfl | rfl | rfl | rfl | rfl | rfl | rfl | rfl
   ·exact ⟨_, fun W r hm => look_1 hm⟩
   ·exact ⟨_, fun W r hm => look_2 hm⟩
   ·exact ⟨_, fun W r hm => look_3 hm⟩
   ·exact ⟨_, fun W r hm => look_4 hm⟩
   ·exact ⟨_, fun W r hm => look_5 hm⟩
   ·exact ⟨_, fun W r hm => look_6 hm⟩
   ·exact ⟨_, fun W r hm => look_7 hm⟩
   ·exact ⟨_, fun W r hm => look_8 hm⟩
  obtain ⟨fn, hlook⟩ := hlook
  split
  ·rename_i h2
   exact (do_e2 hP kind side i fn h2.1 h2.2.1 h2.2.2 Ab _ cb hlook).mono fun e w' hq => ⟨hq.1, WTurn.same hW hq.2⟩
  rename_i h2
  rw [if_neg h2] at hb
  split
  ·rename_i h3
   exact (do_e3 hP kind side i fn (by have : 6 ≤ kind := h3.1; omega) h3.2 Ab _ cb hlook).mono fun e w' hq => ⟨hq.1, WTurn.same hW hq.2⟩
  ·rename_i h3
   rw [if_neg h3] at hb
   exact absurd rfl hb
end
end Go.Proofs.Ytnkkgofpifhoeaa.Pr
end
section
namespace Go.Proofs.Ytnkkgofpifhoeaa.Pr
open Go.RowKit Go.Proofs.Ytnkkgofpifhoeaa.Base Go.Proofs.Ytnkkgofpifhoeaa.Lk Go.Proofs.Ytnkkgofpifhoeaa.Win Go.Proofs.YtnkkgofpifhoeaaW.PrintWords
structure PP (w0 : World) (gp : Nat) (X : Pr) (wr : World) : Prop where
 whole : Whole wr w0.heap.size gp (fun k => w0.heap.size ≤ k) X
 below : Below w0.heap.size w0 wr
theorem PP.sub {w0 wr w1 : World} {gp : Nat} {X : Pr} (h : PP w0 gp X wr) (hb : Below wr.heap.size wr w1) : PP w0 gp X w1 := ⟨h.whole.sub hb, h.below.trans (hb.mono h.below.size)⟩
theorem PP.gp {w0 wr : World} {gp : Nat} {X : Pr} (h : PP w0 gp X wr) : w0.heap.size ≤ gp ∧ gp < wr.heap.size := by
 obtain ⟨_, _, _, _, hP, _⟩ := h.whole
 exact ⟨hP.low, blk_lt hP.blk⟩
theorem PP.turn {w0 wr w1 : World} {gp : Nat} {X Y : Pr} (h : PP w0 gp X wr) (ht : WTurn wr w0.heap.size gp (fun k => w0.heap.size ≤ k) Y w1) : PP w0 gp Y w1 :=
 ⟨ht.1.mono (fun k hk => hk.elim id (fun x => Nat.le_trans h.below.size x)), h.below.trans ht.2.2⟩
theorem new_pp (w0 w : World) (hb : Below w0.heap.size w0 w) : Calls Try.prog 44 #[] w fun e w' => e = .returned (.pointer (some ⟨w.heap.size, 0, none⟩)) ∧ PP w0 w.heap.size newX w' :=
 (new_p w w0.heap.size hb.size).mono fun e w' hq => by
  obtain ⟨ge, own, he, hP, ho, hbl⟩ := hq
  exact ⟨he, ⟨_, _, _, _, hP, fun i k hx => Nat.le_trans hb.size (ho i k hx)⟩, hb.trans hbl⟩
theorem bytes_move {w w' : World} {A : Option Addr} {n : Nat} {xs : List Int} (h : (Kd.int .u8).C w A n xs) (hk : ∀ k, k < w.heap.size → w'.heap[k]? = w.heap[k]?) : (Kd.int .u8).C w' A n xs := by
 refine ⟨h.1, h.2.1, fun hn => ?_⟩
 obtain ⟨ad, he, hc⟩ := h.2.2 hn
 refine ⟨ad, he, fun j p hj => ?_⟩
 obtain ⟨c, hs, hr, hcell⟩ := hc j p hj
 refine ⟨c, hs, hr, fun i u hu => ?_⟩
 have hx := hcell i u hu
 have hlt : (ad.add (j * (Kd.int .u8).sz + i)).block < w.heap.size := by
  by_cases hl : (ad.add (j * (Kd.int .u8).sz + i)).block < w.heap.size
  ·exact hl
  ·exfalso
   have hnone : w.heap[(ad.add (j * (Kd.int .u8).sz + i)).block]? = none := Array.getElem?_eq_none (Nat.le_of_not_lt hl)
   unfold World.cell? at hx
   rw [hnone] at hx
   cases hx
 rw [World.cell?_of_block (hk _ hlt)]
 exact hx
theorem do_pp {w0 wr : World} {gp N : Nat} {X : Pr} (h : PP w0 gp X wr) (hI : Inv X N) (hN : N ≤ 900000) (a : Act) (Ab : Option Addr) (cb : Nat) (hbl : a.body.length ≤ 1000000) (hC : a.kind = 3 → (Kd.int .u8).C w0 Ab a.body.length a.body) :
  Calls Try.prog 41 #[.pointer (some ⟨gp, 0, none⟩), .agg #[.int .i64 a.kind, .int .i64 a.side, .int .i64 a.i, .slice Ab a.body.length cb]] wr fun e w' => e = .returned (.int .i64 (doE X a)) ∧ PP w0 gp (doX X a) w' := by
 refine (do_w h.whole hI hN a Ab cb hbl (fun h3 W' hk => bytes_move (hC h3) (fun k hlt => ?_))).mono fun e w' hq => ⟨hq.1, h.turn hq.2⟩
 have hgp := h.gp
 have hz := h.below.size
 rw [hk.2 k (by omega) (fun hx => by omega), h.below.block k hlt]
theorem do_pf {w0 wr w1 : World} {gp N : Nat} {X : Pr} (h : PP w0 gp X wr) (hb : Below wr.heap.size wr w1) (hI : Inv X N) (hN : N ≤ 900000) (a : Act) (Ab : Option Addr) (cb : Nat) (hbl : a.body.length ≤ 1000000)
  (hC : ∀ W' : World, (∀ k, wr.heap.size ≤ k → k < w1.heap.size → W'.heap[k]? = w1.heap[k]?) → (Kd.int .u8).C W' Ab a.body.length a.body) :
  Calls Try.prog 41 #[.pointer (some ⟨gp, 0, none⟩), .agg #[.int .i64 a.kind, .int .i64 a.side, .int .i64 a.i, .slice Ab a.body.length cb]] w1 fun e w' => e = .returned (.int .i64 (doE X a)) ∧ PP w0 gp (doX X a) w' ∧ ∀ k, wr.heap.size ≤ k → k < w1.heap.size → w'.heap[k]? = w1.heap[k]? := by
 have hgp := h.gp
 have hz := h.below.size
 have hz1 := hb.size
 have hW : Whole w1 w0.heap.size gp (fun k => w0.heap.size ≤ k ∧ k < wr.heap.size) X := by
  obtain ⟨ge, own, lv, wv, hP, hU⟩ := h.whole
  exact ⟨ge, own, lv, wv, hP.sub hb, fun i k hx => ⟨hU i k hx, hP.lt i k hx⟩⟩
 refine (do_w hW hI hN a Ab cb hbl (fun h3 W' hk => hC W' (fun k h1 h2 => hk.2 k h2 (fun hx => by omega)))).mono fun e w' hq => ⟨hq.1, ⟨hq.2.1.mono (fun k hk => ?_), (h.below.trans (hb.mono hz)).trans hq.2.2.2⟩, fun k h1 h2 => hq.2.2.1.2 k h2 (fun hx => by omega)⟩
 rcases hk with hk | hk
 ·exact hk.1
 ·show w0.heap.size ≤ k; omega
section
variable {w0 wr : World} {gp : Nat} {X : Pr} (h : PP w0 gp X wr)
include h
theorem flight_pp : Calls Try.prog 43 #[.pointer (some ⟨gp, 0, none⟩)] wr fun e w' => e = .returned (.int .i64 X.way.length) ∧ wr = w' := by
 obtain ⟨_, _, _, _, hP, _⟩ := h.whole
 exact flight_of hP
theorem phase_pp (s : Nat) (hs : s < 2) : Calls Try.prog 40 #[.pointer (some ⟨gp, 0, none⟩), .int .i64 s] wr fun e w' => e = .returned (.int .i64 (X.sd s).end_.phase) ∧ wr = w' := by
 obtain ⟨_, _, _, _, hP, _⟩ := h.whole
 exact phase_p hP s hs
theorem log_pp {N : Nat} (hI : Inv X N) (hN : N ≤ 900000) (s : Nat) (hs : s < 2) : Calls Try.prog 38 #[.pointer (some ⟨gp, 0, none⟩), .int .i64 s] wr fun e w' => ∃ v, e = .returned v ∧ ent.R 67 w' w0.heap.size (fun k => wr.heap.size ≤ k) v (X.sd s).log ∧ Below wr.heap.size wr w' := by
 obtain ⟨_, _, _, _, hP, _⟩ := h.whole
 have h1 := (hI.p.side s hs).len
 have h2 := (hI.p.side s hs).short
 have h0 : s = 0 ∨ s = 1 := by omega
 rcases h0 with rfl | rfl
 ·exact log_0 hP (by omega) (fun x hx => Nat.le_trans (h2 x hx) (by decide))
 ·exact log_1 hP (by omega) (fun x hx => Nat.le_trans (h2 x hx) (by decide))
end
end Go.Proofs.Ytnkkgofpifhoeaa.Pr
end
section
namespace Go.Proofs.Ytnkkgofpifhoeaa.Pr
open Go.RowKit Go.Proofs.Ytnkkgofpifhoeaa.Base Go.Proofs.Ytnkkgofpifhoeaa.Steps Go.Proofs.Ytnkkgofpifhoeaa.Lk Go.Proofs.Ytnkkgofpifhoeaa.Win Go.Proofs.YtnkkgofpifhoeaaW.PrintWords Go.Proofs.YtnkkgofpifhoeaaW.PrintLast
def al0 : Pr := doX newX ⟨1, 0, 0, []⟩
def al : Nat → Pr
 | 0 => doX al0 ⟨1, 1, 0, []⟩
 | n + 1 => doX (al n) ⟨6, 0, 0, []⟩
def al7 : Pr := doX (al 6) ⟨3, 0, 0, [120]⟩
def al8 : Pr := doX al7 ⟨6, 0, 0, []⟩
theorem al0_inv : Inv al0 1 := do_inv new_inv (by decide) _
theorem al_inv : ∀ n, n ≤ 6 → Inv (al n) (n + 2)
 | 0, _ => do_inv al0_inv (by decide) _
 | n + 1, h => do_inv (al_inv n (by omega)) (by omega) _
theorem al7_inv : Inv al7 9 := do_inv (al_inv 6 (by decide)) (by decide) _
theorem al8_inv : Inv al8 10 := do_inv al7_inv (by decide) _
theorem al_way : ∀ n, n < 6 → 0 < (al n).way.length := by
 intro n hn
 match n, hn with
 | 0, _ => decide
 | 1, _ => decide
 | 2, _ => decide
 | 3, _ => decide
 | 4, _ => decide
 | 5, _ => decide
theorem al_end : (al 6).way.length = 0 := by decide
section
variable {w0 wr : World} {gp : Nat}
theorem al_open0 (h : PP w0 gp newX wr) : Calls Try.prog 41 #[.pointer (some ⟨gp, 0, none⟩), .agg #[.int .i64 1, .int .i64 0, .int .i64 0, .slice none 0 0]] wr fun e w' => e = .returned (.int .i64 0) ∧ PP w0 gp al0 w' :=
 (do_pp h new_inv (by decide) ⟨1, 0, 0, []⟩ none 0 (by decide) (fun x => absurd x (by decide))).mono fun e w' hq => ⟨hq.1.trans (by rw [show doE newX ⟨1, 0, 0, []⟩ = 0 by decide]), hq.2⟩
theorem al_open1 (h : PP w0 gp al0 wr) : Calls Try.prog 41 #[.pointer (some ⟨gp, 0, none⟩), .agg #[.int .i64 1, .int .i64 1, .int .i64 0, .slice none 0 0]] wr fun e w' => e = .returned (.int .i64 0) ∧ PP w0 gp (al 0) w' :=
 (do_pp h al0_inv (by decide) ⟨1, 1, 0, []⟩ none 0 (by decide) (fun x => absurd x (by decide))).mono fun e w' hq => ⟨hq.1.trans (by rw [show doE al0 ⟨1, 1, 0, []⟩ = 0 by decide]), hq.2⟩
theorem al_next (n : Nat) (hn : n < 6) (h : PP w0 gp (al n) wr) : Calls Try.prog 41 #[.pointer (some ⟨gp, 0, none⟩), .agg #[.int .i64 6, .int .i64 0, .int .i64 0, .slice none 0 0]] wr fun e w' => (∃ E : Int, e = .returned (.int .i64 E)) ∧ PP w0 gp (al (n + 1)) w' :=
 (do_pp h (al_inv n (by omega)) (by omega) ⟨6, 0, 0, []⟩ none 0 (by decide) (fun x => absurd x (by decide))).mono fun e w' hq => ⟨⟨_, hq.1⟩, hq.2⟩
theorem al_send {w1 : World} (h : PP w0 gp (al 6) wr) (hb : w1 = wr.alloc (.cells #[.int .u8 120] 5 (1, 2))) : Calls Try.prog 41 #[.pointer (some ⟨gp, 0, none⟩), .agg #[.int .i64 3, .int .i64 0, .int .i64 0, .slice (some ⟨wr.heap.size, 0, none⟩) 1 1]] w1 fun e w' => e = .returned (.int .i64 0) ∧ PP w0 gp al7 w' := by
 subst hb
 refine (do_pf h ((Below.refl _ _).alloc (Nat.le_refl _) _) (al_inv 6 (by decide)) (by decide) ⟨3, 0, 0, [120]⟩ (some ⟨wr.heap.size, 0, none⟩) 1 (by decide) (fun W' hW => ?_)).mono fun e w' hq => ⟨hq.1.trans (by rw [show doE (al 6) ⟨3, 0, 0, [120]⟩ = 0 by decide]), hq.2.1⟩
 have hx := hW wr.heap.size (Nat.le_refl _) (by simp)
 have hblk : W'.heap[wr.heap.size]? = some (.cells #[.int .u8 120] 5 (1, 2)) := hx.trans (heap_alloc_new wr _)
 refine ⟨rfl, by decide, fun _ => ⟨_, rfl, fun j p hj => ⟨[.int .u8 p], rfl, rfl, fun i u hu => ?_⟩⟩⟩
 have hj0 : j = 0 := by
  by_cases h : j = 0
  ·exact h
  ·rw [List.getElem?_eq_none (by simp; omega)] at hj; cases hj
 subst hj0
 have hi0 : i = 0 := by
  by_cases h : i = 0
  ·exact h
  ·rw [List.getElem?_eq_none (by simp; omega)] at hu; cases hu
 subst hi0
 have hp : (120 : Int) = p := Option.some.inj hj
 subst hp
 have hu' : Value.int .u8 120 = u := Option.some.inj hu
 subst hu'
 show W'.cell? ⟨wr.heap.size, 0, none⟩ = _
 rw [World.cell?_of_block (w := wr.alloc (.cells #[.int .u8 120] 5 (1, 2))) (a := ⟨wr.heap.size, 0, none⟩) hx]
 exact World.cell?_alloc_mark wr #[.int .u8 120] 5 (1, 2) 0
theorem al_last (h : PP w0 gp al7 wr) : Calls Try.prog 41 #[.pointer (some ⟨gp, 0, none⟩), .agg #[.int .i64 6, .int .i64 0, .int .i64 0, .slice none 0 0]] wr fun e w' => (∃ E : Int, e = .returned (.int .i64 E)) ∧ PP w0 gp al8 w' :=
 (do_pp h al7_inv (by decide) ⟨6, 0, 0, []⟩ none 0 (by decide) (fun x => absurd x (by decide))).mono fun e w' hq => ⟨⟨_, hq.1⟩, hq.2⟩
theorem al8_log : (al8.sd 1).log = [⟨1, 1, 1, 1, 1, []⟩, ⟨4, 1, 1, 1, 1, [120]⟩] := by rfl
theorem al_log (h : PP w0 gp al8 wr) : Calls Try.prog 38 #[.pointer (some ⟨gp, 0, none⟩), .int .i64 1] wr fun e w' => ∃ g c A cb, e = .returned (.slice (some ⟨g, 0, none⟩) 2 c) ∧ w'.cell? ⟨g, 6, none⟩ = some (.int .i64 4) ∧ w'.cell? ⟨g, 11, none⟩ = some (.slice A 1 cb) ∧ (Kd.int .u8).C w' A 1 [120] ∧ Below wr.heap.size wr w' := by
 refine (log_pp h al8_inv (by decide) 1 (by decide)).mono fun e w' hq => ?_
 obtain ⟨v, he, hR, hb⟩ := hq
 rw [al8_log] at hR
 obtain ⟨g, cap, hv, _⟩ := Kd.R_form hR (by decide)
 subst hv
 obtain ⟨cs, hl, hM, hc, _⟩ := Kd.R_elem hR nilE 1 (by decide) (by decide)
 obtain ⟨b, hcs, hRb⟩ := ent_M.1 hM
 obtain ⟨Ab, cb, hbv⟩ := Kd.R_slice hRb
 subst hbv
 subst hcs
 exact ⟨g, cap, Ab, cb, he, hc 0 _ rfl, hc 5 _ rfl, (Kd.R_reads' hRb).2.2, hb⟩
theorem al_phase (h : PP w0 gp al8 wr) : Calls Try.prog 40 #[.pointer (some ⟨gp, 0, none⟩), .int .i64 0] wr fun e w' => e = .returned (.int .i64 2) ∧ wr = w' :=
 (phase_pp h 0 (by decide)).mono fun e w' hq => ⟨hq.1.trans (by rw [show (al8.sd 0).end_.phase = 2 by decide]), hq.2⟩
end
theorem str1 : strOfNums [120] = (⟨#[120]⟩ : ByteArray) := by first | rfl | decide
set_option maxRecDepth 100000 in
set_option maxHeartbeats 4000000 in
theorem alive12 (w : World) : Calls Try.prog 35 #[] w fun e w' => e = .returned (.bool true) ∧ Below w.heap.size w w' := by
 go_enter Try.func35, Try.ntmps35
 go_wp2_with (first | (go_at_call 44; (have hc := new_pp w w (Below.refl _ _)); (with_reducible refine hc.mono ?_); clear hc; rintro e w1 ⟨rfl, h⟩; (have HP1 := Lib.hid h); clear h) | (go_at_call 41; (have hc := al_open0 HP1.out); (with_reducible refine hc.mono ?_); clear hc; rintro e w2 ⟨rfl, h⟩; (have HP2 := Lib.hid h); clear h) | (go_at_call 41; (have hc := al_open1 HP2.out); (with_reducible refine hc.mono ?_); clear hc; rintro e w3 ⟨rfl, h⟩; (have HP3 := Lib.hid h); clear h))
 generalize hgp : w.heap.size = gp at *
 have HGP := Lib.hid hgp
 clear hgp
 go_loopg [2] 6 (fun m v wr => ∃ i : Nat, m = 6 - i ∧ i ≤ 6 ∧ v = .int .i64 (i : Int) ∧ PP w gp (al i) wr)
 case atStart => exact ⟨0, rfl, by decide, rfl, HP3.out⟩
 case round =>
  obtain ⟨i, hm, hin, rfl, hP⟩ := hrel
  have HM := Lib.hid hm
  have HIN := Lib.hid hin
  have HP := Lib.hid hP
  clear hm hin hP
  have hd : decide ((i : Int) < 50) = true := by have := HIN.out; simp; omega
  by_cases hlt : i < 6
  ·have HLT := Lib.hid hlt
   have HW := Lib.hid (al_way i hlt)
   have hc43 := flight_pp HP.out
   have HC := Lib.hid hc43
   clear hc43
   generalize (al i).way.length = n at HW HC
   have hd2 : decide ((n : Int) > 0) = true := by have := HW.out; simp; omega
   have hd3 : decide (0 < n) = true := by have := HW.out; simp; omega
   have hn0 := HW.out
   go_wp2_with (first | (go_at_call 43; (have hc := HC.out); (with_reducible refine hc.mono ?_); clear hc; rintro e w9 ⟨rfl, rfl⟩; skip) | (go_at_call 41; (have hc := al_next i HLT.out HP.out); (with_reducible refine hc.mono ?_); clear hc; rintro e w5 ⟨⟨E, rfl⟩, h⟩; (have HPN := Lib.hid h); clear h))
   go_roundg (6 - (i + 1))
   case measure => have := HM.out; have := HLT.out; omega
   case rel => exact ⟨i + 1, rfl, by have := HLT.out; omega, by first | rfl | simp, HPN.out⟩
  ·have hi6 : i = 6 := by have := HIN.out; omega
   subst hi6
   have HC := Lib.hid (by have hc43 := flight_pp HP.out; rw [al_end] at hc43; exact hc43 : Calls Try.prog 43 #[.pointer (some ⟨gp, 0, none⟩)] wr fun e w' => e = .returned (.int .i64 (0 : Nat)) ∧ wr = w')
   have hconv := Lib.run_convert_bytes_const (P := Try.prog) wr 22 5 #[.int .u8 120] 1 1 Try.underlying22 Try.underlying5
   go_wp2_with (first | (go_at_call 43; (have hc := HC.out); (with_reducible refine hc.mono ?_); clear hc; rintro e w9 ⟨rfl, rfl⟩; skip) | (go_at_call 41; (have hc := al_send HP.out rfl); (with_reducible refine hc.mono ?_); clear hc; rintro e w5 ⟨rfl, h⟩; (have HP5 := Lib.hid h); clear h hconv) | (go_at_call 41; (have hc := al_last HP5.out); (with_reducible refine hc.mono ?_); clear hc; rintro e w6 ⟨⟨E, rfl⟩, h⟩; (have HP6 := Lib.hid h); clear h) | (go_at_call 38; (have hc := al_log HP6.out); (with_reducible refine hc.mono ?_); clear hc; rintro e w7 ⟨g, c, A, cb, rfl, h1, h2, h3, h4⟩; (have HC7 := Lib.hid h3); (have HP7 := Lib.hid (HP6.out.sub h4)); (have hcv := Kd.C_string (P := Try.prog) (dst := 9) (c := cb) Try.underlying22 Try.underlying5 Try.underlying9 h3); (rw [str1] at hcv); clear h3 h4) | (go_at_call 40; (have hc := al_phase HP7.out); (with_reducible refine hc.mono ?_); clear hc; rintro e w9 ⟨rfl, rfl⟩; skip))
   all_goals (go_ret; exact ⟨rfl, HP7.out.below⟩)
end Go.Proofs.Ytnkkgofpifhoeaa.Pr
end
section
namespace Go.Proofs.Ytnkkgofpifhoeaa.Pr
open Go.RowKit Go.Proofs.Ytnkkgofpifhoeaa.Base Go.Proofs.Ytnkkgofpifhoeaa.Steps Go.Proofs.Ytnkkgofpifhoeaa.Lk Go.Proofs.Ytnkkgofpifhoeaa.Win Go.Proofs.YtnkkgofpifhoeaaW.PrintWords Go.Proofs.YtnkkgofpifhoeaaW.PrintLast
def act : Kd Act := Kd.iso (Kd.pair (Kd.int .i64) (Kd.pair (Kd.int .i64) (Kd.pair (Kd.int .i64) Lk.bytes))) (fun a => (a.kind, a.side, a.i, a.body))
def acells (a : Act) (b : Value) : List Value := [.int .i64 a.kind, .int .i64 a.side, .int .i64 a.i, b]
theorem act_sz : act.sz = 4 := rfl
theorem act_K {w : World} {a : Act} {cs : List Value} : act.K w a cs ↔ ∃ A c, cs = acells a (.slice A a.body.length c) ∧ a.body.length ≤ c ∧ (Kd.int .u8).C w A a.body.length a.body := by
 constructor
 ·rintro ⟨_, _, rfl, rfl, _, _, rfl, rfl, _, _, rfl, rfl, A, c, rfl, h1, h2⟩
  exact ⟨A, c, rfl, h1, h2⟩
 ·rintro ⟨A, c, rfl, h1, h2⟩
  exact ⟨_, _, rfl, rfl, _, _, rfl, rfl, _, _, rfl, rfl, A, c, rfl, h1, h2⟩
def nilA : Act := ⟨0, 0, 0, []⟩
theorem act_elem {w : World} {A : Option Addr} {n : Nat} {l : List Act} (h : act.C w A n l) (i : Nat) (hi : i < n) :
  ∃ g o Ab cb, A = some ⟨g, o, none⟩ ∧ n = l.length ∧ w.rangeAt g (o + i * 4) (acells (l.getD i nilA) (.slice Ab (l.getD i nilA).body.length cb)) ∧ (Kd.int .u8).C w Ab (l.getD i nilA).body.length (l.getD i nilA).body := by
 obtain ⟨hn, hm, hc⟩ := h
 obtain ⟨⟨g, o, sp⟩, he, hcell⟩ := hc (by omega)
 have hsp : sp = none := by
  obtain ⟨c, hl, hK, hcc⟩ := hcell 0 _ (List.getElem?_eq_getElem (show 0 < l.length by omega))
  obtain ⟨A', c', hcs, _, _⟩ := act_K.1 hK
  have h0 := hcc 0 (.int .i64 (l[0]'(by omega)).kind) (by rw [hcs]; rfl)
  rw [show 0 * act.sz + 0 = 0 by simp] at h0
  cases sp with
  | none => rfl
  | some s =>
   exfalso
   unfold World.cell? Addr.add at h0
   rw [if_pos rfl] at h0
   cases hb : w.heap[g]? with
   | none => rw [hb] at h0; cases h0
   | some ob =>
    rw [hb] at h0
    cases ob <;> simp at h0
 subst hsp
 obtain ⟨c, hl, hK, hcc⟩ := hcell i _ (List.getElem?_eq_getElem (show i < l.length by omega))
 obtain ⟨Ab, cb, hcs, hle, hC⟩ := act_K.1 hK
 have hg : l.getD i nilA = l[i]'(by omega) := by rw [List.getD_eq_getElem?_getD, List.getElem?_eq_getElem (show i < l.length by omega)]; rfl
 rw [hg]
 refine ⟨g, o, Ab, cb, he, hn.symm, fun j v hv => ?_, hC⟩
 have := hcc j v (by rw [hcs]; exact hv)
 rw [act_sz] at this
 unfold Addr.add at this
 by_cases hz : i * 4 + j = 0
 ·rw [if_pos hz] at this
  have e : o + i * 4 + j = o := by omega
  rw [e]; exact this
 ·rw [if_neg hz] at this
  have e : o + i * 4 + j = o + (i * 4 + j) := by omega
  rw [e]; exact this
def FitsP (l : List Act) : Prop := l.length ≤ 400 ∧ ∀ a ∈ l, a.body.length ≤ 1100
theorem fits_all {l : List Act} (hl : l.length ≤ 400) (h : ∀ j, j < l.length → (l.getD j nilA).body.length ≤ 1100) : FitsP l := ⟨hl, fun a ha => by
 obtain ⟨j, hj, rfl⟩ := List.mem_iff_getElem.1 ha
 have := h j hj
 rwa [List.getD_eq_getElem?_getD, List.getElem?_eq_getElem hj] at this⟩
def FitsE (l : List Act) (e : Ending) : Prop := ∃ b, e = .returned (.bool b) ∧ (b = true → FitsP l)
set_option maxRecDepth 100000 in
set_option maxHeartbeats 2000000 in
theorem fits_w (w : World) (A : Option Addr) (n c : Nat) (l : List Act) (h : act.C w A n l) : Calls Try.prog 36 #[.slice A n c] w fun e w' => FitsE l e ∧ w = w' := by
 have H := Lib.hid h
 have HN := Lib.hid h.1
 have HM := Lib.hid h.2.1
 clear h
 by_cases h4 : n ≤ 400
 ·have hd4 : decide ((n : Int) > 400) = false := by simp; omega
  have H4 := Lib.hid h4
  go_enter Try.func36, Try.ntmps36
  go_wp2_with fail
  go_loop [3] (fun v => ∃ i : Nat, i ≤ n ∧ v = .int .i64 (i : Int) ∧ ∀ j, j < i → (l.getD j nilA).body.length ≤ 1100) (fun v => n - (intOf v).toNat)
  case atStart => exact ⟨0, Nat.zero_le _, rfl, fun j hj => absurd hj (by omega)⟩
  case round =>
   obtain ⟨i, hin, rfl, hall⟩ := hrel
   have HIN := Lib.hid hin
   have HALL := Lib.hid hall
   clear hin hall
   have hn4 := H4.out
   by_cases hlt : i < n
   ·have hd : decide ((i : Int) < (n : Int)) = true := by simp [hlt]
    obtain ⟨g, o, Ab, cb, hA, _, hrg, _⟩ := act_elem H.out i hlt
    subst hA
    have hc3 : w.cell? ⟨g, o + i * 4 + 3, none⟩ = some (.slice Ab (l.getD i nilA).body.length cb) := hrg 3 _ rfl
    clear hrg
    generalize hb : (l.getD i nilA).body.length = nb at *
    have HB := Lib.hid hb
    clear hb
    by_cases h11 : nb ≤ 1100
    ·have hd11 : decide ((nb : Int) > 1100) = false := by simp; omega
     go_wp2_with fail
     go_round
     case rel => exact ⟨i + 1, by omega, by go_num, fun j hj => by
      by_cases hji : j = i
      ·subst hji; rw [HB.out]; exact h11
      ·exact HALL.out j (by omega)⟩
     case measure => simp [intOf]; omega
    ·have hd11 : decide ((nb : Int) > 1100) = true := by simp; omega
     go_wp2_with fail
     all_goals (go_ret; exact ⟨⟨false, rfl, fun hf => absurd hf (by decide)⟩, rfl⟩)
   ·have hd : decide ((i : Int) < (n : Int)) = false := by simp; omega
    have hie : i = n := by have := HIN.out; omega
    subst hie
    go_wp2_with fail
    all_goals (go_ret; exact ⟨⟨true, rfl, fun _ => fits_all (by rw [HN.out]; exact H4.out) (by rw [HN.out]; exact HALL.out)⟩, rfl⟩)
 ·have hd4 : decide ((n : Int) > 400) = true := by simp; omega
  go_enter Try.func36, Try.ntmps36
  go_wp2_with fail
  all_goals (go_ret; exact ⟨⟨false, rfl, fun hf => absurd hf (by decide)⟩, rfl⟩)
theorem run_take (X : Pr) (l : List Act) (i : Nat) (hi : i < l.length) : runX X (l.take (i + 1)) = doX (runX X (l.take i)) (l.getD i nilA) := by
 unfold runX
 rw [List.take_add_one, List.foldl_append, List.getD_eq_getElem?_getD, List.getElem?_eq_getElem hi]
 rfl
theorem act_C_below {w w1 : World} {A : Option Addr} {n : Nat} {l : List Act} (h : act.C w A n l) (hb : Below w.heap.size w w1) : act.C w1 A n l := Kd.C_below h hb
set_option maxRecDepth 100000 in
set_option maxHeartbeats 2000000 in
theorem run_w (w0 w : World) (hb : Below w0.heap.size w0 w) (A : Option Addr) (n c : Nat) (l : List Act) (h : act.C w0 A n l) (hf : FitsP l) : Calls Try.prog 37 #[.slice A n c] w fun e w' => ∃ gp, e = .returned (.pointer (some ⟨gp, 0, none⟩)) ∧ PP w0 gp (runX newX l) w' ∧ w.heap.size ≤ gp := by
 have H := Lib.hid h
 have HN := Lib.hid h.1
 have HF := Lib.hid hf
 have HB := Lib.hid hb
 have hn4 : n ≤ 400 := by rw [← h.1]; exact hf.1
 have H4 := Lib.hid hn4
 clear h hf hb hn4
 go_enter Try.func37, Try.ntmps37
 go_wp2_with (go_at_call 44; (have hc := new_pp w0 w HB.out); (with_reducible refine hc.mono ?_); clear hc; rintro e w1 ⟨rfl, hP⟩; (have HP1 := Lib.hid hP); clear hP)
 generalize hgp : w.heap.size = gp at *
 have HGP := Lib.hid hgp
 clear hgp
 go_loopg [4] n (fun m v wr => ∃ i : Nat, m = n - i ∧ i ≤ n ∧ v = .int .i64 (i : Int) ∧ PP w0 gp (runX newX (l.take i)) wr)
 case atStart => exact ⟨0, rfl, Nat.zero_le _, rfl, HP1.out⟩
 case round =>
  obtain ⟨i, hm, hin, rfl, hP⟩ := hrel
  have HM := Lib.hid hm
  have HIN := Lib.hid hin
  have HP := Lib.hid hP
  clear hm hin hP
  have hn4 := H4.out
  by_cases hlt : i < n
  ·have hd : decide ((i : Int) < (n : Int)) = true := by simp [hlt]
   have hi := run_inv (l.take i) new_inv (by have := HN.out; rw [List.length_take]; omega)
   have HI := Lib.hid hi
   obtain ⟨g, o, Ab, cb, hA, -, hrg, hC⟩ := act_elem H.out i hlt
   subst hA
   have hbl : (l.getD i nilA).body.length ≤ 1000000 := Nat.le_trans (HF.out.2 _ (by rw [List.getD_eq_getElem?_getD, List.getElem?_eq_getElem (by rw [HN.out]; exact hlt)]; exact List.getElem_mem _)) (by decide)
   have hdo := do_pp HP.out hi (by have := HN.out; rw [List.length_take]; omega) (l.getD i nilA) Ab cb hbl (fun _ => hC)
   rw [← run_take newX l i (by rw [HN.out]; exact hlt)] at hdo
   have HDO := Lib.hid hdo
   have HRG := Lib.hid (show wr.rangeAt g (o + i * 4) (acells (l.getD i nilA) (.slice Ab (l.getD i nilA).body.length cb)) from fun j v hv => pw_cell_below HP.out.below (hrg j v hv))
   clear hrg hC hdo hi hbl
   generalize hx : l.getD i nilA = x at *
   clear hx
   go_wp2_with (first | ((with_reducible refine gate_dst (N := 16) rfl ?_); (refine wpList_load_mid rfl 72 (.tmp 15) rfl g (o + i * 4) (by first | rfl | (simp; done)) [.int .i64 x.kind, .int .i64 x.side, .int .i64 x.i, .slice Ab x.body.length cb] _ HRG.out Try.underlying72 rfl (by kernel_rfl) ?_)) | (go_at_call 41; (have hc := HDO.out); (with_reducible refine hc.mono ?_); clear hc; rintro e w2 ⟨rfl, hP⟩; (have HP2 := Lib.hid hP); clear hP))
   go_roundg (n - (i + 1))
   case measure => have := HM.out; omega
   case rel => exact ⟨i + 1, rfl, by omega, by first | rfl | simp, HP2.out⟩
  ·have hd : decide ((i : Int) < (n : Int)) = false := by simp; omega
   have hie : i = n := by have := HIN.out; omega
   subst hie
   go_wp2_with fail
   all_goals (go_ret; refine ⟨_, rfl, ?_, by rw [HGP.out]; exact Nat.le_refl _⟩)
   have hp := HP.out
   rw [List.take_of_length_le (by rw [HN.out]; exact Nat.le_refl _)] at hp
   exact hp
end Go.Proofs.Ytnkkgofpifhoeaa.Pr
end
section
namespace Go.Proofs.Ytnkkgofpifhoeaa.Pr
open Go.Proofs.Ytnkkgofpifhoeaa.Lk
theorem chk_none (l : List Ent) : l.foldl chkS none = none := by
 induction l with
 | nil => rfl
 | cons e l ih => exact ih
theorem chk_take {l : List Ent} {st : Bool × Key} (h : chk l = some st) (i : Nat) : ∃ b K, chk (l.take i) = some (b, K) := by
 have h2 : chk l = (l.drop i).foldl chkS (chk (l.take i)) := by
  unfold chk
  rw [← List.foldl_append, List.take_append_drop]
 cases hc : chk (l.take i) with
 | none => rw [hc, chk_none, h] at h2; cases h2
 | some st => exact ⟨st.1, st.2, rfl⟩
theorem take_next {l : List Ent} {i : Nat} (hi : i < l.length) : l.take (i + 1) = l.take i ++ [l.getD i nilE] := by
 rw [List.take_add_one, List.getD_eq_getElem?_getD, List.getElem?_eq_getElem hi]; rfl
theorem chk_next {l : List Ent} {i : Nat} (hi : i < l.length) : chk (l.take (i + 1)) = chkS (chk (l.take i)) (l.getD i nilE) := by
 rw [take_next hi]
 exact chk_snoc _ _
theorem chkS_some {b b' : Bool} {kb km kp ky : Int} {K' : Key} {x : Ent} (h : chkS (some (b, (kb, km, kp, ky))) x = some (b', K')) :
  (x.kind = 5 ∧ x.boot = kb + 1 ∧ b' = false ∧ K' = (x.boot, 0, 0, 0)) ∨
  (x.kind ≠ 5 ∧ x.kind = 1 ∧ b = false ∧ x.boot = kb ∧ km < x.mine ∧ x.peer ≠ 0 ∧ x.yours ≠ 0 ∧ kp ≤ x.peer ∧ (x.peer = kp → ky ≤ x.yours) ∧ b' = true ∧ K' = keyE x) ∨
  (x.kind ≠ 5 ∧ x.kind ≠ 1 ∧ b = true ∧ x.boot = kb ∧ x.mine = km ∧ x.peer = kp ∧ x.yours = ky ∧ b' = decide (x.kind ≠ 2) ∧ K' = (kb, km, kp, ky)) := by
 unfold chkS at h
 simp only [] at h
 split at h
 ·rename_i h5
  split at h
  ·rename_i hb
   injection h with h
   injection h with h1 h2
   exact .inl ⟨h5, hb, h1.symm, h2.symm⟩
  ·cases h
 rename_i h5
 split at h
 ·rename_i h1
  split at h
  ·cases h
  ·rename_i hc
   injection h with h
   injection h with h2 h3
   refine .inr (.inl ⟨h5, h1, ?_, ?_, ?_, ?_, ?_, ?_, ?_, h2.symm, h3.symm⟩)
   ·cases b
    ·rfl
    ·exact absurd (.inl rfl) hc
   ·by_cases hx : x.boot = kb
    ·exact hx
    ·exact absurd (.inr (.inl hx)) hc
   ·by_cases hx : x.mine ≤ km
    ·exact absurd (.inr (.inr (.inl hx))) hc
    ·omega
   ·exact fun hx => hc (.inr (.inr (.inr (.inl hx))))
   ·exact fun hx => hc (.inr (.inr (.inr (.inr (.inl hx)))))
   ·by_cases hx : x.peer < kp
    ·exact absurd (.inr (.inr (.inr (.inr (.inr (.inl hx)))))) hc
    ·omega
   ·intro hx
    by_cases hy : x.yours < ky
    ·exact absurd (.inr (.inr (.inr (.inr (.inr (.inr ⟨hx, hy⟩)))))) hc
    ·omega
 ·rename_i h1
  split at h
  ·cases h
  ·rename_i hc
   injection h with h
   injection h with h2 h3
   have hk : keyE x = (kb, km, kp, ky) := by
    by_cases hx : keyE x = (kb, km, kp, ky)
    ·exact hx
    ·exact absurd (.inr hx) hc
   unfold keyE at hk
   injection hk with k1 hk
   injection hk with k2 hk
   injection hk with k3 k4
   refine .inr (.inr ⟨h5, h1, ?_, k1, k2, k3, k4, h2.symm, h3.symm⟩)
   cases b
   ·exact absurd (.inl rfl) hc
   ·rfl
theorem epochs_log {X : Pr} {N : Nat} (h : Inv X N) (s : Nat) (hs : s < 2) : ∃ K, chk (X.sd s).log = some (decide ((X.sd s).end_.phase = 2), K) ∧ K.1 < 4294967296 := by
 obtain ⟨up, K, hc⟩ := (h.p.side s hs).told
 exact ⟨K, by rw [hc.eq, hc.up], by rw [hc.boot]; exact (h.p.side s hs).fine.ok.own.2⟩
def Low (pre : List Ent) (K : Key) : Prop := 1 ≤ K.1 ∧ ∀ e ∈ pre, e.kind = 3 ∨ e.kind = 4 → e.boot < K.1 ∨ e.boot = K.1 ∧ e.mine ≤ K.2.1
theorem low_step {pre : List Ent} {b b' : Bool} {K K' : Key} {x : Ent} (hl : Low pre K) (h : chkS (some (b, K)) x = some (b', K')) : Low (pre ++ [x]) K' ∧ K.1 ≤ K'.1 := by
 obtain ⟨kb, km, kp, ky⟩ := K
 obtain ⟨h1, hl⟩ := hl
 have h1' : 1 ≤ kb := h1
 have hall : ∀ K' : Key, (∀ e ∈ pre, e.kind = 3 ∨ e.kind = 4 → e.boot < K'.1 ∨ e.boot = K'.1 ∧ e.mine ≤ K'.2.1) → (x.kind = 3 ∨ x.kind = 4 → x.boot < K'.1 ∨ x.boot = K'.1 ∧ x.mine ≤ K'.2.1) → ∀ e ∈ pre ++ [x], e.kind = 3 ∨ e.kind = 4 → e.boot < K'.1 ∨ e.boot = K'.1 ∧ e.mine ≤ K'.2.1 := fun K' a c e he => (List.mem_append.1 he).elim (a e) (fun y => by rw [List.mem_singleton.1 y]; exact c)
 rcases chkS_some h with ⟨h5, hxb, _, rfl⟩ | ⟨h5, hk, _, hxb, hxm, _, _, _, _, _, rfl⟩ | ⟨h5, hk, _, hxb, hxm, _, _, _, rfl⟩
 ·refine ⟨⟨by show 1 ≤ x.boot; omega, hall _ (fun e he hk => ?_) (fun hk => by omega)⟩, by show kb ≤ x.boot; omega⟩
  have := hl e he hk
  have hx : e.boot < kb ∨ e.boot = kb ∧ e.mine ≤ km := this
  left
  show e.boot < x.boot
  omega
 ·refine ⟨⟨by show 1 ≤ x.boot; omega, hall _ (fun e he hk => ?_) (fun hk => by omega)⟩, by show kb ≤ x.boot; omega⟩
  have hx : e.boot < kb ∨ e.boot = kb ∧ e.mine ≤ km := hl e he hk
  show e.boot < x.boot ∨ e.boot = x.boot ∧ e.mine ≤ x.mine
  omega
 ·exact ⟨⟨h1, hall _ hl (fun _ => by show x.boot < kb ∨ x.boot = kb ∧ x.mine ≤ km; omega)⟩, Int.le_refl _⟩
theorem low_fold (l : List Ent) : ∀ {pre : List Ent} {b b' : Bool} {K K' : Key}, Low pre K → l.foldl chkS (some (b, K)) = some (b', K') → Low (pre ++ l) K' ∧ K.1 ≤ K'.1 := by
 induction l with
 | nil =>
  intro pre b b' K K' hl h
  injection h with h
  injection h with _ h
  subst h
  rw [List.append_nil]
  exact ⟨hl, Int.le_refl _⟩
 | cons x l ih =>
  intro pre b b' K K' hl h
  rw [List.foldl_cons] at h
  cases hc : chkS (some (b, K)) x with
  | none => rw [hc, chk_none] at h; cases h
  | some st =>
   obtain ⟨b1, K1⟩ := st
   rw [hc] at h
   obtain ⟨h1, h2⟩ := low_step hl hc
   obtain ⟨h3, h4⟩ := ih h1 h
   rw [show pre ++ x :: l = pre ++ [x] ++ l by simp]
   exact ⟨h3, Int.le_trans h2 h4⟩
theorem chk_low {l : List Ent} {b : Bool} {K : Key} (h : chk l = some (b, K)) : Low l K := by
 have h0 : Low [] ((1, 0, 0, 0) : Key) := ⟨Int.le_refl _, fun e he => by cases he⟩
 have := (low_fold l h0 h).1
 rwa [List.nil_append] at this
theorem chk_mono {l : List Ent} {b : Bool} {K : Key} (h : chk l = some (b, K)) {i : Nat} {b1 : Bool} {K1 : Key} (h1 : chk (l.take i) = some (b1, K1)) : K1.1 ≤ K.1 := by
 have h2 : chk l = (l.drop i).foldl chkS (chk (l.take i)) := by
  unfold chk
  rw [← List.foldl_append, List.take_append_drop]
 rw [h1, h] at h2
 exact (low_fold _ (chk_low h1) h2.symm).2
def mirB (x g : Ent) : Bool := decide (x.kind = 3 ∧ x.boot = g.peer ∧ x.mine = g.yours ∧ x.peer = g.boot ∧ x.yours = g.mine)
theorem mirB_iff (x g : Ent) : mirB x g = true ↔ x.kind = 3 ∧ keyE x = mir (keyE g) := by
 unfold mirB keyE mir
 rw [decide_eq_true_eq]
 constructor
 ·rintro ⟨a, b, c, d, e⟩
  exact ⟨a, by rw [b, c, d, e]⟩
 ·rintro ⟨a, b⟩
  injection b with b c
  injection c with c d
  injection d with d e
  exact ⟨a, b, c, d, e⟩
def OR (l m : List Ent) (i at_ : Nat) : Prop := at_ ≤ m.length ∧ ∃ b K, chk (l.take i) = some (b, K) ∧ (b = true → (ofK 3 (m.take at_) (mir K)).length = (ofK 4 (l.take i) K).length)
theorem or_start {l m : List Ent} : OR l m 0 0 := ⟨Nat.zero_le _, false, (1, 0, 0, 0), rfl, fun h => by cases h⟩
theorem or_other {l m : List Ent} {st : Bool × Key} (hc : chk l = some st) {i at_ : Nat} (hi : i < l.length) (h : OR l m i at_) (hk : (l.getD i nilE).kind ≠ 4) : OR l m (i + 1) (if (l.getD i nilE).kind = 1 then 0 else at_) := by
 obtain ⟨ha, b, K, h1, h2⟩ := h
 obtain ⟨b', K', h3⟩ := chk_take hc (i + 1)
 have hn := h3
 rw [chk_next hi, h1] at hn
 have hlow := chk_low h1
 refine ⟨by split <;> omega, b', K', h3, fun hb => ?_⟩
 rw [take_next hi, ofK_no hk]
 obtain ⟨kb, km, kp, ky⟩ := K
 generalize l.getD i nilE = x at *
 rcases chkS_some hn with ⟨h5, _, hb', _⟩ | ⟨_, hk1, _, hxb, hxm, _, _, _, _, _, hK⟩ | ⟨_, hk1, hb0, _, _, _, _, hb', hK⟩
 ·rw [hb'] at hb; cases hb
 ·rw [if_pos hk1]
  have : ofK 4 (l.take i) K' = [] := ofK_nil (fun e he hk4 hke => by
   have hx := hlow.2 e he (.inr hk4)
   have hx' : e.boot < kb ∨ e.boot = kb ∧ e.mine ≤ km := hx
   rw [hK] at hke
   unfold keyE at hke
   injection hke with e1 e2
   injection e2 with e2 _
   omega)
  rw [this]
  rfl
 ·rw [if_neg hk1, hK]
  exact h2 hb0
theorem or_got {l m : List Ent} {st : Bool × Key} (hc : chk l = some st) {i at_ : Nat} (hi : i < l.length) (h : OR l m i at_) (hk : (l.getD i nilE).kind = 4) :
  ∃ K, keyE (l.getD i nilE) = K ∧ chk (l.take (i + 1)) = some (true, K) ∧ (ofK 3 (m.take at_) (mir K)).length = (ofK 4 (l.take i) K).length := by
 obtain ⟨ha, b, K, h1, h2⟩ := h
 obtain ⟨b', K', h3⟩ := chk_take hc (i + 1)
 have hn := h3
 rw [chk_next hi, h1] at hn
 obtain ⟨kb, km, kp, ky⟩ := K
 generalize l.getD i nilE = x at *
 rcases chkS_some hn with ⟨h5, _⟩ | ⟨_, hk1, _⟩ | ⟨_, hk1, hb0, e1, e2, e3, e4, hb', hK⟩
 ·omega
 ·omega
 ·refine ⟨(kb, km, kp, ky), by unfold keyE; rw [e1, e2, e3, e4], ?_, h2 hb0⟩
  rw [h3, hb', hK, decide_eq_true (by omega)]
theorem or_skip {m : List Ent} {g : Ent} {a p : Nat} (hap : a ≤ p) (hp : p ≤ m.length) (hno : ∀ j, a ≤ j → j < p → mirB (m.getD j nilE) g = false) : ofK 3 (m.take p) (mir (keyE g)) = ofK 3 (m.take a) (mir (keyE g)) := by
 induction p with
 | zero =>
  have : a = 0 := by omega
  rw [this]
 | succ p ih =>
  by_cases h : a = p + 1
  ·rw [h]
  ·have hpl : p < m.length := by omega
   rw [take_next hpl]
   have hm := hno p (by omega) (by omega)
   have hn : ¬ ((m.getD p nilE).kind = 3 ∧ keyE (m.getD p nilE) = mir (keyE g)) := fun hx => by
    rw [(mirB_iff _ _).2 hx] at hm; cases hm
   rw [ofK_append, ofK_one, if_neg hn, List.append_nil]
   exact ih (by omega) (by omega) (fun j h1 h2 => hno j h1 (by omega))
theorem or_there {l m : List Ent} {st : Bool × Key} (hc : chk l = some st) (hpre : ∀ K, ofK 4 l K <+: ofK 3 m (mir K)) {i at_ p : Nat} (hi : i < l.length) (h : OR l m i at_) (hk : (l.getD i nilE).kind = 4) (hap : at_ ≤ p) (hp : p ≤ m.length)
  (hno : ∀ j, at_ ≤ j → j < p → mirB (m.getD j nilE) (l.getD i nilE) = false) : p < m.length ∧ (mirB (m.getD p nilE) (l.getD i nilE) = true → (m.getD p nilE).body = (l.getD i nilE).body ∧ OR l m (i + 1) (p + 1)) := by
 obtain ⟨K, hK, h3, h4⟩ := or_got hc hi h hk
 have hsk := or_skip hap hp hno
 rw [hK] at hsk
 have hsp : l = l.take (i + 1) ++ l.drop (i + 1) := (List.take_append_drop _ _).symm
 have hl4 : ofK 4 l K = ofK 4 (l.take i) K ++ [(l.getD i nilE).body] ++ ofK 4 (l.drop (i + 1)) K := by
  have h5 : ofK 4 l K = ofK 4 (l.take (i + 1)) K ++ ofK 4 (l.drop (i + 1)) K := by rw [← ofK_append, List.take_append_drop]
  rw [h5, take_next hi, ofK_yes hk hK]
 obtain ⟨t, ht⟩ := hpre K
 have hmlen : (ofK 4 (l.take i) K).length < (ofK 3 m (mir K)).length := by
  rw [← ht, hl4]; simp only [List.length_append, List.length_singleton]; omega
 have hm3 : ofK 3 m (mir K) = ofK 3 (m.take p) (mir K) ++ ofK 3 (m.drop p) (mir K) := by rw [← ofK_append, List.take_append_drop]
 have hpl : p < m.length := by
  by_cases hx : p < m.length
  ·exact hx
  ·exfalso
   rw [List.take_of_length_le (by omega)] at hsk
   rw [hsk, h4] at hmlen
   omega
 refine ⟨hpl, fun hmir => ?_⟩
 obtain ⟨hk3, hkx⟩ := (mirB_iff _ _).1 hmir
 rw [hK] at hkx
 have htp : ofK 3 (m.take (p + 1)) (mir K) = ofK 3 (m.take p) (mir K) ++ [(m.getD p nilE).body] := by rw [take_next hpl, ofK_yes hk3 hkx]
 have hlen : (ofK 3 (m.take p) (mir K)).length = (ofK 4 (l.take i) K).length := by rw [hsk, h4]
 constructor
 ·have hm4 : ofK 3 m (mir K) = ofK 3 (m.take (p + 1)) (mir K) ++ ofK 3 (m.drop (p + 1)) (mir K) := by rw [← ofK_append, List.take_append_drop]
  have e1 : (ofK 3 m (mir K))[(ofK 4 (l.take i) K).length]? = some (m.getD p nilE).body := by
   rw [hm4, htp, ← hlen, List.append_assoc, List.getElem?_append_right (Nat.le_refl _), Nat.sub_self]; rfl
  have e2 : (ofK 3 m (mir K))[(ofK 4 (l.take i) K).length]? = some (l.getD i nilE).body := by
   rw [← ht, hl4, List.append_assoc, List.append_assoc, List.getElem?_append_right (Nat.le_refl _), Nat.sub_self]; rfl
  rw [e1] at e2
  exact Option.some.inj e2
 ·refine ⟨by omega, true, K, h3, fun _ => ?_⟩
  rw [htp, take_next hi, ofK_yes hk hK, List.length_append, List.length_append, hlen]
  rfl
end Go.Proofs.Ytnkkgofpifhoeaa.Pr
end
section
namespace Go.Proofs.Ytnkkgofpifhoeaa.Pr
open Go.ChangeShapes Go.WideShapes Go.ChangeAt Go.RowKit Go.Deep Go.Joins Go.Proofs.YtnkkgofpifhoeaaW.PrintWords
section
variable {H : Type} {enc : TypeId × Value → H} {w : World} {base : Nat} {held : Bool}
theorem bytes_of {fuel : Nat} {v : Value} {y : DataW H × List MemPlace} (h : DataW.trod enc Try.prog w base (fun _ => true) held fuel 22 [v] = some y) :
  ∃ A l c, v = .slice A l.length c ∧ l.length ≤ c ∧ (Kd.int .u8).C w A l.length l := by
 rcases open_ints Try.underlying22 Try.underlying5 (by kernel_rfl) h with ⟨hcs, _⟩ | ⟨a', len', cap', zs, hcs, _, hl', hm', hz, _, hcell, _⟩
 ·have hv : v = .slice none 0 0 := by simpa using hcs
  subst hv
  exact ⟨none, [], 0, rfl, Nat.le_refl _, rfl, by decide, fun h => absurd h (by decide)⟩
 ·have hv : v = .slice (some a') len' cap' := by simpa using hcs
  subst hv
  simp only [if_true] at hz
  have hmx : maxLen = 9223372036854775807 := rfl
  have hlen : (zs.take len').length = len' := by rw [List.length_take]; omega
  refine ⟨some a', zs.take len', cap', by rw [hlen], by rw [hlen]; exact hl', ?_⟩
  rw [hlen]
  refine Kd.C_of_reads (d := (0 : Int)) (h1 := fun _ => rfl) ⟨hlen, by omega, fun hlp => ⟨a', rfl, fun c hc => ?_⟩⟩
  have e1 := hcell c (by omega)
  rw [e1]
  rw [List.getD_eq_getElem?_getD, List.getD_eq_getElem?_getD, List.getElem?_take_of_lt hc]
theorem four_of {P : Program} {t : TypeId} {f0 f1 f2 f3 : Field} {fuel : Nat} {v0 v1 v2 v3 : Value} {x : DataW H × List MemPlace} (hs : P.underlying t = some (.struct #[f0, f1, f2, f3])) (hone : oneCellFields P #[f0, f1, f2, f3] = true) (h : DataW.trod enc P w base (fun _ => true) held fuel t [v0, v1, v2, v3] = some x) :
  ∃ (y0 y1 y2 y3 : DataW H × List MemPlace) (n : Nat), DataW.trod enc P w base (fun _ => true) held n f0.type [v0] = some y0 ∧ DataW.trod enc P w base (fun _ => true) held n f1.type [v1] = some y1 ∧ DataW.trod enc P w base (fun _ => true) held n f2.type [v2] = some y2 ∧ DataW.trod enc P w base (fun _ => true) held n f3.type [v3] = some y3 := by
 obtain ⟨y0, y1, y2, y3, n, _, _, h0, h1, h2, h3⟩ := trod_struct4 hs h
 obtain ⟨o0, k0⟩ := hone_of hone 0 f0 rfl
 obtain ⟨o1, k1⟩ := hone_of hone 1 f1 rfl
 obtain ⟨o2, k2⟩ := hone_of hone 2 f2 rfl
 obtain ⟨o3, k3⟩ := hone_of hone 3 f3 rfl
 exact ⟨y0, y1, y2, y3, n, by simpa [o0, k0] using h0, by simpa [o1, k1] using h1, by simpa [o2, k2] using h2, by simpa [o3, k3] using h3⟩
instance : Inhabited Act := ⟨nilA⟩
theorem act_of {fuel : Nat} {cs : List Value} {x : DataW H × List MemPlace} (hl : cs.length = 4) (h : DataW.trod enc Try.prog w base (fun _ => true) held fuel 72 cs = some x) : ∃ a : Act, act.K w a cs := by
 match cs, hl with
 | [v0, v1, v2, v3], _ =>
  obtain ⟨y0, y1, y2, y3, n, h0, h1, h2, h3⟩ := four_of Try.underlying72 (by kernel_rfl) h
  obtain ⟨a0, e0, _, _⟩ := DataW.trod_int Try.underlying3 h0
  obtain ⟨a1, e1, _, _⟩ := DataW.trod_int Try.underlying3 h1
  obtain ⟨a2, e2, _, _⟩ := DataW.trod_int Try.underlying3 h2
  obtain ⟨A, l, c, e3, h4, h5⟩ := bytes_of h3
  simp at e0 e1 e2
  subst e0 e1 e2 e3
  exact ⟨⟨a0, a1, a2, l⟩, act_K.2 ⟨A, c, rfl, h4, h5⟩⟩
theorem acts_of_trod {fuel : Nat} {a0 : Option Addr} {len0 cap0 : Nat} {x : DataW H × List MemPlace} (h : DataW.trod enc Try.prog w base (fun _ => true) held fuel 60 [.slice a0 len0 cap0] = some x) : ∃ l, act.C w a0 len0 l := by
 rcases open_slice Try.underlying60 h with ⟨hcs, _⟩ | ⟨a, len, cap, m, n, D, Pl, hcs, _, hl, hm, hmm, _, hx⟩
 ·simp at hcs
  obtain ⟨rfl, rfl, rfl⟩ := hcs
  exact ⟨[], rfl, by decide, fun h => absurd h (by decide)⟩
 ·simp at hcs
  obtain ⟨rfl, rfl, rfl⟩ := hcs
  simp only [if_true] at hmm
  subst hmm
  have hc4 : Try.prog.cellsOf 72 = 4 := by kernel_rfl
  rw [hc4] at hx
  have each : ∀ i, i < len0 → ∃ q : Act, ∃ cs', cs'.length = 4 ∧ act.K w q cs' ∧ ∀ j u, cs'[j]? = some u → w.cell? (a.add (i * 4 + j)) = some u := by
   intro i hi
   obtain ⟨cs', h1, h2⟩ := hx i (by omega)
   obtain ⟨_, hlen, hcell⟩ := World.cells?_some h1
   obtain ⟨q, hq⟩ := act_of hlen h2
   refine ⟨q, cs', hlen, hq, fun j u hu => ?_⟩
   have hj : j < 4 := by
    have := (List.getElem?_eq_some_iff.1 hu).1
    omega
   have := hcell j hj
   rw [Deep.add_add] at this
   rw [this]; exact hu
  obtain ⟨q, hq⟩ := choose_lt each
  have hmx : maxLen = 9223372036854775807 := rfl
  refine ⟨(List.range len0).map q, by simp, by omega, fun hp => ⟨a, rfl, fun j p hj => ?_⟩⟩
  have hjl : j < len0 := by
   by_cases hjl : j < len0
   ·exact hjl
   ·rw [List.getElem?_eq_none (by simp; omega)] at hj; cases hj
  rw [List.getElem?_map, List.getElem?_range hjl] at hj
  have hpq : q j = p := Option.some.inj hj
  subst hpq
  exact hq j hjl
end
end Go.Proofs.Ytnkkgofpifhoeaa.Pr
end
