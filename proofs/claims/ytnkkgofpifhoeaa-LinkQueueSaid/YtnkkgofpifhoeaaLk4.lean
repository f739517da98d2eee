/- Shut, Open. -/
import Derived.Test.YtnkkgofpifhoeaaLk3
namespace Go.Proofs.Ytnkkgofpifhoeaa.Lk
open Go.RowKit Go.Proofs.Ytnkkgofpifhoeaa.Base Go.Proofs.Ytnkkgofpifhoeaa.Steps Go.Proofs.YtnkkgofpifhoeaaW.PrintWords Go.Proofs.YtnkkgofpifhoeaaW.PrintLast
set_option linter.unusedSimpArgs false
set_option linter.unusedVariables false
def shut_ (L : Lk) : Lk := { L with phase := 0, queue := [], sent := 0, known := false }
theorem shut_ok {L : Lk} (h : L.Ok) : (shut_ L).Ok := by
  have h1 := h.own; have h2 := h.token; have h3 := h.boot; have h4 := h.yours; have h5 := h.out; have h6 := h.base; have h7 := h.expected; have h8 := h.idle
  constructor <;> simp [shut_] <;> omega
set_option maxHeartbeats 1000000 in
theorem shut_of {w : World} {B g : Nat} {okq oko : Nat → Prop} {L : Lk} {q o : Value} (h : At w B okq oko g L q o) : Calls Try.prog 78 #[.pointer (some ⟨g, 0, none⟩)] w fun e w' => e = .returned (.bool (decide (L.phase = 2))) ∧ At w' B (fun _ => False) oko g (shut_ L) (.slice none 0 0) o ∧ Go.Proofs.Ytnkkgofpifhoeaa.Steps.At g w w' := by
  have hc1 : w.cell? ⟨g, 1, none⟩ = some (.int .i64 L.phase) := (blk_cell h.blk 1).trans rfl
  have K0 := Lib.hid (⟨h, Steps.At.refl g w⟩ : At w B okq oko g L q o ∧ Go.Proofs.Ytnkkgofpifhoeaa.Steps.At g w w)
  clear h
  go_enter Try.func78, Try.ntmps78
  go_wp2_with (first | ((with_reducible refine gate_ (.store 3 (.tmp 13) (.const (.int .i64 0))) rfl ?_); (refine store_F (fun wz => At wz B okq oko g { L with phase := 0 } q o ∧ Go.Proofs.Ytnkkgofpifhoeaa.Steps.At g w wz) rfl rfl ⟨_, (by have hz1 : World.cell? _ ⟨g, 1, none⟩ = some _ := (blk_cell K0.out.1.blk 1).trans rfl; have hz2 := blk_frozen K0.out.1.blk 1; first | (go_simp; done) | (go_simp; rfl)), K0.out.1.put1 1 _ rfl rfl rfl, Steps.At.set K0.out.2 _ _⟩ (fun w_K1 hF => ?_)); (have K1 := Lib.hid hF); (clear hF)) | ((with_reducible refine gate_ (.store 45 (.tmp 16) (.const (.slice none 0 0))) rfl ?_); (refine store_F (fun wz => At wz B (fun _ => False) oko g { L with phase := 0, queue := [] } (.slice none 0 0) o ∧ Go.Proofs.Ytnkkgofpifhoeaa.Steps.At g w wz) rfl rfl ⟨_, (by have hz1 : World.cell? _ ⟨g, 6, none⟩ = some _ := (blk_cell K1.out.1.blk 6).trans rfl; have hz2 := blk_frozen K1.out.1.blk 6; first | (go_simp; done) | (go_simp; rfl)), K1.out.1.noq rfl rfl rfl, Steps.At.set K1.out.2 _ _⟩ (fun w_K2 hF => ?_)); (have K2 := Lib.hid hF); (clear hF)) | ((with_reducible refine gate_ (.store 3 (.tmp 19) (.const (.int .i64 0))) rfl ?_); (refine store_F (fun wz => At wz B (fun _ => False) oko g { L with phase := 0, queue := [], sent := 0 } (.slice none 0 0) o ∧ Go.Proofs.Ytnkkgofpifhoeaa.Steps.At g w wz) rfl rfl ⟨_, (by have hz1 : World.cell? _ ⟨g, 7, none⟩ = some _ := (blk_cell K2.out.1.blk 7).trans rfl; have hz2 := blk_frozen K2.out.1.blk 7; first | (go_simp; done) | (go_simp; rfl)), K2.out.1.put1 7 _ rfl rfl rfl, Steps.At.set K2.out.2 _ _⟩ (fun w_K3 hF => ?_)); (have K3 := Lib.hid hF); (clear hF)) | ((with_reducible refine gate_ (.store 4 (.tmp 22) (.const (.bool false))) rfl ?_); (refine store_F (fun wz => At wz B (fun _ => False) oko g { L with phase := 0, queue := [], sent := 0, known := false } (.slice none 0 0) o ∧ Go.Proofs.Ytnkkgofpifhoeaa.Steps.At g w wz) rfl rfl ⟨_, (by have hz1 : World.cell? _ ⟨g, 5, none⟩ = some _ := (blk_cell K3.out.1.blk 5).trans rfl; have hz2 := blk_frozen K3.out.1.blk 5; first | (go_simp; done) | (go_simp; rfl)), K3.out.1.put1 5 _ rfl rfl rfl, Steps.At.set K3.out.2 _ _⟩ (fun w_K4 hF => ?_)); (have K4 := Lib.hid hF); (clear hF)))
  all_goals (go_ret; exact ⟨rfl, K4.out.1, K4.out.2⟩)
theorem kept_at' {w w1 : World} {g : Nat} (h : Go.Proofs.Ytnkkgofpifhoeaa.Steps.At g w w1) : Kept w w1 (fun k => k = g) := ⟨Nat.le_of_eq h.size.symm, fun i _ hn => h.block i hn⟩
/-- Behind a method that may drop the queue. -/
def Drops (w : World) (B : Nat) (okq oko : Nat → Prop) (g : Nat) (L : Lk) (w' : World) : Prop :=
  ∃ okq' q, (∀ k, okq' k → okq k) ∧ ∃ o, At w' B okq' (fun k => oko k ∨ w.heap.size ≤ k ∧ k < w'.heap.size) g L q o ∧ Kept w w' (fun k => oko k ∨ k = g) ∧ Below B w w'
theorem Drops.same {w : World} {B g : Nat} {okq oko : Nat → Prop} {L : Lk} {q o : Value} (h : At w B okq oko g L q o) : Drops w B okq oko g L w :=
  ⟨okq, q, fun _ h => h, o, ⟨h.blk, h.queue, Kd.R_mono h.out (fun _ hk => .inl hk), h.low, fun k hk ho => ho.elim (h.apart k hk) (fun hn => by omega), fun k hk => (hk.elim (fun x => h.old k (.inl x)) (fun x => x.elim (fun y => h.old k (.inr y)) (fun hn => by omega)))⟩, Kept.refl _ _, Below.refl _ _⟩
theorem Emits.drops {w w1 w' : World} {B g : Nat} {okq oko : Nat → Prop} {L : Lk} {q : Value} (hat : Go.Proofs.Ytnkkgofpifhoeaa.Steps.At g w w1) (hB : B ≤ g) (h : Emits w1 B (fun _ => False) oko g L q w') : Drops w B okq oko g L w' := by
  obtain ⟨o, h1, h2, h3⟩ := h
  rw [hat.size] at h1
  exact ⟨fun _ => False, q, fun _ hf => hf.elim, o, h1, ((kept_at' hat).mono (fun k hk => .inr hk)).then_ h2 (fun k hk => .inl hk), (hat.below (Below.refl _ _) hB).trans h3⟩
def openL (L : Lk) : Lk := if L.phase = 0 ∧ L.token ≠ 4294967295 then emit_ (begin_ L) (helloP (begin_ L)) else L
def openE (L : Lk) : Int := if L.phase = 0 then (if L.token = 4294967295 then 111 else 0) else 110
theorem openL_ok {L : Lk} (h : L.Ok) : (openL L).Ok := by
  unfold openL
  split
  · rename_i hc
    have := h.token
    exact emit_ok (begin_ok h (by omega)) _
  · exact h
set_option maxHeartbeats 1000000 in
theorem open_of {w : World} {B g : Nat} {okq oko : Nat → Prop} {L : Lk} {q o : Value} (h : At w B okq oko g L q o) (hok : L.Ok) (hB : B ≤ w.heap.size) : Calls Try.prog 27 #[.pointer (some ⟨g, 0, none⟩)] w fun e w' => e = .returned (.int .i64 (openE L)) ∧ Drops w B okq oko g (openL L) w' := by
  have hc1 : w.cell? ⟨g, 1, none⟩ = some (.int .i64 L.phase) := (blk_cell h.blk 1).trans rfl
  have hc2 : w.cell? ⟨g, 2, none⟩ = some (.int .u32 L.token) := (blk_cell h.blk 2).trans rfl
  have ht := hok.token
  have H := Lib.hid h
  have OK := Lib.hid hok
  clear h hok
  by_cases hp : L.phase = 0
  · by_cases htk : L.token = 4294967295
    · have hE : openE L = 111 := by simp [openE, hp, htk]
      have hL : openL L = L := by simp [openL, hp, htk]
      rw [hE, hL]
      clear hE hL
      go_enter Try.func27, Try.ntmps27
      go_wp2
      all_goals (go_ret; exact ⟨rfl, Drops.same H.out⟩)
    · have hE : openE L = 0 := by simp [openE, hp, htk]
      have hL : openL L = emit_ (begin_ L) (helloP (begin_ L)) := by simp [openL, hp, htk]
      rw [hE, hL]
      clear hE hL
      go_enter Try.func27, Try.ntmps27
      go_wp2_with (first | (go_at_call 72; (refine (begin_of H.out OK.out (by omega)).mono ?_); (rintro e w1 ⟨rfl, h1, hat⟩); (have H1 := Lib.hid h1); (have HAT := Lib.hid hat); (clear h1 hat)) | (go_at_call 73; (refine (hello_of H1.out (begin_ok OK.out (by omega)) (by have := HAT.out.size; omega)).mono ?_); (rintro e w2 ⟨rfl, hE⟩); (have HE := Lib.hid (Emits.drops (okq := okq) HAT.out H.out.low hE)); (clear hE)))
      all_goals (go_ret; exact ⟨rfl, HE.out⟩)
  · have hE : openE L = 110 := by simp [openE, hp]
    have hL : openL L = L := by simp [openL, hp]
    rw [hE, hL]
    clear hE hL
    go_enter Try.func27, Try.ntmps27
    go_wp2
    all_goals (go_ret; exact ⟨rfl, Drops.same H.out⟩)
end Go.Proofs.Ytnkkgofpifhoeaa.Lk
