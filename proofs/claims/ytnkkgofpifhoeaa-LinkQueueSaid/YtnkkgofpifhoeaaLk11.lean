/- How far a number lies ahead; Token; Peer. -/
import Derived.Test.YtnkkgofpifhoeaaLk10
namespace Go.Proofs.Ytnkkgofpifhoeaa.Lk
open Go.RowKit Go.Proofs.Ytnkkgofpifhoeaa.Base Go.Proofs.Ytnkkgofpifhoeaa.Steps Go.Proofs.YtnkkgofpifhoeaaW.PrintWords Go.Proofs.YtnkkgofpifhoeaaW.PrintLast
set_option linter.unusedSimpArgs false
set_option linter.unusedVariables false
theorem far_of (a b : Int) (w : World) : Calls Try.prog 106 #[.int .u32 a, .int .u32 b] w fun e w' => e = .returned (.int .u32 (IntKind.u32.wrap (b - a))) ∧ w = w' := by
  go_enter Try.func106, Try.ntmps106
  go_wp2
  all_goals (go_ret; exact ⟨rfl, rfl⟩)
theorem ahead_of (a b : Int) (w : World) : Calls Try.prog 79 #[.int .u32 a, .int .u32 b] w fun e w' => e = .returned (.int .u32 (IntKind.u32.wrap (b - a))) ∧ w = w' := by
  go_enter Try.func79, Try.ntmps79
  go_wp2_with (go_at_call 106; refine (far_of _ _ _).mono ?_; rintro e w1 ⟨rfl, rfl⟩)
  all_goals (go_ret; exact ⟨rfl, rfl⟩)
theorem token_of {w : World} {B g : Nat} {own : Nat → Prop} {L : Lk} (h : End w B own g L) : Calls Try.prog 71 #[.pointer (some ⟨g, 0, none⟩)] w fun e w' => e = .returned (.int .u32 L.token) ∧ w = w' := by
  obtain ⟨okq, oko, q, o, h, _⟩ := h
  have hc1 : w.cell? ⟨g, 2, none⟩ = some (.int .u32 L.token) := (blk_cell h.blk 2).trans rfl
  clear h
  go_enter Try.func71, Try.ntmps71
  go_wp2
  all_goals (go_ret; exact ⟨rfl, rfl⟩)
theorem peer_of {w : World} {B g : Nat} {own : Nat → Prop} {L : Lk} (h : End w B own g L) : Calls Try.prog 129 #[.pointer (some ⟨g, 0, none⟩)] w fun e w' => e = .returned (.tuple #[.int .u32 (if L.known then L.boot else 0), .int .u32 (if L.known then L.yours else 0)]) ∧ Below w.heap.size w w' := by
  obtain ⟨okq, oko, q, o, h, _⟩ := h
  have hc3 : w.cell? ⟨g, 3, none⟩ = some (.int .u32 L.boot) := (blk_cell h.blk 3).trans rfl
  have hc4 : w.cell? ⟨g, 4, none⟩ = some (.int .u32 L.yours) := (blk_cell h.blk 4).trans rfl
  have hc5 : w.cell? ⟨g, 5, none⟩ = some (.bool L.known) := (blk_cell h.blk 5).trans rfl
  clear h
  cases hk : L.known
  · rw [hk] at hc5
    rw [if_neg (by decide), if_neg (by decide)]
    clear hk
    go_enter Try.func129, Try.ntmps129
    go_wp2_with fail
    try go_quiet (fail)
    go_wp2
    all_goals (go_ret2; refine ⟨rfl, ?_⟩; first | exact Below.refl _ _ | exact bl_drew (Below.refl _ _) | exact pw_below_drewN (Below.refl _ _) _)
  · rw [hk] at hc5
    rw [if_pos rfl, if_pos rfl]
    clear hk
    go_enter Try.func129, Try.ntmps129
    go_wp2_with fail
    try go_quiet (fail)
    go_wp2
    all_goals (go_ret2; refine ⟨rfl, ?_⟩; first | exact Below.refl _ _ | exact bl_drew (Below.refl _ _) | exact pw_below_drewN (Below.refl _ _) _)
end Go.Proofs.Ytnkkgofpifhoeaa.Lk
