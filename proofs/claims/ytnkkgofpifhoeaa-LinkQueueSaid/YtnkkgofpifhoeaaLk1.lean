/- An end's small methods: New, Phase, Queue, Shut, begin, age. -/
import Derived.Test.YtnkkgofpifhoeaaLk
import Derived.Test.YtnkkgofpifhoeaaChecked
import Derived.Lib.Hide
namespace Go.Proofs.Ytnkkgofpifhoeaa.Lk
open Go.RowKit Go.Proofs.Ytnkkgofpifhoeaa.Base Go.Proofs.Ytnkkgofpifhoeaa.Steps Go.Proofs.YtnkkgofpifhoeaaW.PrintWords Go.Proofs.YtnkkgofpifhoeaaW.PrintLast
set_option linter.unusedSimpArgs false
set_option linter.unusedVariables false
theorem phase_of {w : World} {B g : Nat} {okq oko : Nat → Prop} {L : Lk} {q o : Value} (h : At w B okq oko g L q o) : Calls Try.prog 29 #[.pointer (some ⟨g, 0, none⟩)] w fun e w' => e = .returned (.int .i64 L.phase) ∧ w = w' := by
  have hc1 : w.cell? ⟨g, 1, none⟩ = some (.int .i64 L.phase) := (blk_cell h.blk 1).trans rfl
  clear h
  go_enter Try.func29, Try.ntmps29
  go_wp2
  all_goals (go_ret; exact ⟨rfl, rfl⟩)
theorem queue_of {w : World} {B g : Nat} {okq oko : Nat → Prop} {L : Lk} {q o : Value} (h : At w B okq oko g L q o) : Calls Try.prog 31 #[.pointer (some ⟨g, 0, none⟩)] w fun e w' => e = .returned (.int .i64 L.queue.length) ∧ w = w' := by
  obtain ⟨A, c, hq, hl⟩ := Kd.Q_slice h.queue
  have hc6 : w.cell? ⟨g, 6, none⟩ = some (.slice A L.queue.length c) := (blk_cell h.blk 6).trans (by rw [hq]; rfl)
  clear h
  go_enter Try.func31, Try.ntmps31
  go_wp2
  all_goals (go_ret; exact ⟨rfl, rfl⟩)
def newL (own : Int) : Lk := ⟨own, 0, 0, 0, 0, false, [], 0, 0, 0, 0, []⟩
theorem newL_ok (own : Int) (ho : 0 < own ∧ own < 4294967296) : (newL own).Ok := by constructor <;> simp [newL] <;> omega
theorem new_of (own : Int) (ho : 0 < own ∧ own < 4294967296) (w : World) (B : Nat) (hB : B ≤ w.heap.size) : Calls Try.prog 26 #[.int .u32 own] w fun e w' => e = .returned (.tuple #[.pointer (some ⟨w.heap.size, 0, none⟩), .int .i64 0]) ∧ At w' B (fun _ => False) (fun _ => False) w.heap.size (newL own) (.slice none 0 0) (.slice none 0 0) ∧ Below w.heap.size w w' := by
  have ho1 : ¬ own = 0 := by omega
  go_enter Try.func26, Try.ntmps26
  go_wp2
  all_goals go_ret2
  exact ⟨rfl, ⟨heap_alloc_new w _, Kd.Q_nil _ _ _ _ _, Kd.R_nil _ _ _ _ _, hB, fun _ h => h.elim, fun k hk => (hk.elim False.elim False.elim)⟩, (Below.refl _ _).alloc (Nat.le_refl _) _⟩
/-- A new attempt. -/
def begin_ (L : Lk) : Lk := { L with token := L.token + 1, phase := 1, known := false, queue := [], sent := 0, base := 4294967293, expected := 4294967293, idle := 0 }
theorem begin_ok {L : Lk} (h : L.Ok) (ht : L.token < 4294967295) : (begin_ L).Ok := by
  have h1 := h.own; have h2 := h.token; have h3 := h.boot; have h4 := h.yours; have h5 := h.out
  constructor <;> simp [begin_] <;> omega
set_option maxHeartbeats 2000000 in
theorem begin_of {w : World} {B g : Nat} {okq oko : Nat → Prop} {L : Lk} {q o : Value} (h : At w B okq oko g L q o) (hok : L.Ok) (ht : L.token < 4294967295) : Calls Try.prog 72 #[.pointer (some ⟨g, 0, none⟩)] w fun e w' => e = .returned (.tuple #[]) ∧ At w' B (fun _ => False) oko g (begin_ L) (.slice none 0 0) o ∧ Go.Proofs.Ytnkkgofpifhoeaa.Steps.At g w w' := by
  have hc2 : w.cell? ⟨g, 2, none⟩ = some (.int .u32 L.token) := (blk_cell h.blk 2).trans rfl
  have ht1 := hok.token
  have K0 := Lib.hid (⟨h, Steps.At.refl g w⟩ : At w B okq oko g L q o ∧ Go.Proofs.Ytnkkgofpifhoeaa.Steps.At g w w)
  clear h hok
  go_enter Try.func72, Try.ntmps72
  go_wp2_with (first | ((with_reducible refine gate_ (.store 24 (.tmp 8) (.tmp 6)) rfl ?_); (refine store_F (fun wz => At wz B okq oko g { L with token := L.token + 1 } q o ∧ Go.Proofs.Ytnkkgofpifhoeaa.Steps.At g w wz) rfl rfl ⟨_, (by have hz1 : World.cell? _ ⟨g, 2, none⟩ = some _ := (blk_cell K0.out.1.blk 2).trans rfl; have hz2 := blk_frozen K0.out.1.blk 2; first | (go_simp; done) | (go_simp; rfl)), K0.out.1.put1 2 _ rfl rfl rfl, Steps.At.set K0.out.2 _ _⟩ (fun w_K1 hF => ?_)); (have K1 := Lib.hid hF); (clear hF)) | ((with_reducible refine gate_ (.store 3 (.tmp 11) (.const (.int .i64 1))) rfl ?_); (refine store_F (fun wz => At wz B okq oko g { L with token := L.token + 1, phase := 1 } q o ∧ Go.Proofs.Ytnkkgofpifhoeaa.Steps.At g w wz) rfl rfl ⟨_, (by have hz1 : World.cell? _ ⟨g, 1, none⟩ = some _ := (blk_cell K1.out.1.blk 1).trans rfl; have hz2 := blk_frozen K1.out.1.blk 1; first | (go_simp; done) | (go_simp; rfl)), K1.out.1.put1 1 _ rfl rfl rfl, Steps.At.set K1.out.2 _ _⟩ (fun w_K2 hF => ?_)); (have K2 := Lib.hid hF); (clear hF)) | ((with_reducible refine gate_ (.store 4 (.tmp 14) (.const (.bool false))) rfl ?_); (refine store_F (fun wz => At wz B okq oko g { L with token := L.token + 1, phase := 1, known := false } q o ∧ Go.Proofs.Ytnkkgofpifhoeaa.Steps.At g w wz) rfl rfl ⟨_, (by have hz1 : World.cell? _ ⟨g, 5, none⟩ = some _ := (blk_cell K2.out.1.blk 5).trans rfl; have hz2 := blk_frozen K2.out.1.blk 5; first | (go_simp; done) | (go_simp; rfl)), K2.out.1.put1 5 _ rfl rfl rfl, Steps.At.set K2.out.2 _ _⟩ (fun w_K3 hF => ?_)); (have K3 := Lib.hid hF); (clear hF)) | ((with_reducible refine gate_ (.store 45 (.tmp 17) (.const (.slice none 0 0))) rfl ?_); (refine store_F (fun wz => At wz B (fun _ => False) oko g { L with token := L.token + 1, phase := 1, known := false, queue := [] } (.slice none 0 0) o ∧ Go.Proofs.Ytnkkgofpifhoeaa.Steps.At g w wz) rfl rfl ⟨_, (by have hz1 : World.cell? _ ⟨g, 6, none⟩ = some _ := (blk_cell K3.out.1.blk 6).trans rfl; have hz2 := blk_frozen K3.out.1.blk 6; first | (go_simp; done) | (go_simp; rfl)), K3.out.1.noq rfl rfl rfl, Steps.At.set K3.out.2 _ _⟩ (fun w_K4 hF => ?_)); (have K4 := Lib.hid hF); (clear hF)) | ((with_reducible refine gate_ (.store 3 (.tmp 20) (.const (.int .i64 0))) rfl ?_); (refine store_F (fun wz => At wz B (fun _ => False) oko g { L with token := L.token + 1, phase := 1, known := false, queue := [], sent := 0 } (.slice none 0 0) o ∧ Go.Proofs.Ytnkkgofpifhoeaa.Steps.At g w wz) rfl rfl ⟨_, (by have hz1 : World.cell? _ ⟨g, 7, none⟩ = some _ := (blk_cell K4.out.1.blk 7).trans rfl; have hz2 := blk_frozen K4.out.1.blk 7; first | (go_simp; done) | (go_simp; rfl)), K4.out.1.put1 7 _ rfl rfl rfl, Steps.At.set K4.out.2 _ _⟩ (fun w_K5 hF => ?_)); (have K5 := Lib.hid hF); (clear hF)) | ((with_reducible refine gate_ (.store 24 (.tmp 24) (.const (.int .u32 4294967293))) rfl ?_); (refine store_F (fun wz => At wz B (fun _ => False) oko g { L with token := L.token + 1, phase := 1, known := false, queue := [], sent := 0, base := 4294967293 } (.slice none 0 0) o ∧ Go.Proofs.Ytnkkgofpifhoeaa.Steps.At g w wz) rfl rfl ⟨_, (by have hz1 : World.cell? _ ⟨g, 8, none⟩ = some _ := (blk_cell K5.out.1.blk 8).trans rfl; have hz2 := blk_frozen K5.out.1.blk 8; first | (go_simp; done) | (go_simp; rfl)), K5.out.1.put1 8 _ rfl rfl rfl, Steps.At.set K5.out.2 _ _⟩ (fun w_K6 hF => ?_)); (have K6 := Lib.hid hF); (clear hF)) | ((with_reducible refine gate_ (.store 24 (.tmp 26) (.const (.int .u32 4294967293))) rfl ?_); (refine store_F (fun wz => At wz B (fun _ => False) oko g { L with token := L.token + 1, phase := 1, known := false, queue := [], sent := 0, base := 4294967293, expected := 4294967293 } (.slice none 0 0) o ∧ Go.Proofs.Ytnkkgofpifhoeaa.Steps.At g w wz) rfl rfl ⟨_, (by have hz1 : World.cell? _ ⟨g, 9, none⟩ = some _ := (blk_cell K6.out.1.blk 9).trans rfl; have hz2 := blk_frozen K6.out.1.blk 9; first | (go_simp; done) | (go_simp; rfl)), K6.out.1.put1 9 _ rfl rfl rfl, Steps.At.set K6.out.2 _ _⟩ (fun w_K7 hF => ?_)); (have K7 := Lib.hid hF); (clear hF)) | ((with_reducible refine gate_ (.store 3 (.tmp 29) (.const (.int .i64 0))) rfl ?_); (refine store_F (fun wz => At wz B (fun _ => False) oko g { L with token := L.token + 1, phase := 1, known := false, queue := [], sent := 0, base := 4294967293, expected := 4294967293, idle := 0 } (.slice none 0 0) o ∧ Go.Proofs.Ytnkkgofpifhoeaa.Steps.At g w wz) rfl rfl ⟨_, (by have hz1 : World.cell? _ ⟨g, 10, none⟩ = some _ := (blk_cell K7.out.1.blk 10).trans rfl; have hz2 := blk_frozen K7.out.1.blk 10; first | (go_simp; done) | (go_simp; rfl)), K7.out.1.put1 10 _ rfl rfl rfl, Steps.At.set K7.out.2 _ _⟩ (fun w_K8 hF => ?_)); (have K8 := Lib.hid hF); (clear hF)))
  refine bodyPost_end (results_none rfl _ _ _) rfl ?_
  exact ⟨rfl, K8.out.1, K8.out.2⟩
end Go.Proofs.Ytnkkgofpifhoeaa.Lk
