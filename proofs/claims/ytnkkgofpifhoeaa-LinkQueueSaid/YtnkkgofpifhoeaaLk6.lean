/- age: is a packet older than the newest, the same, newer? -/
import Derived.Test.YtnkkgofpifhoeaaLk1
namespace Go.Proofs.Ytnkkgofpifhoeaa.Lk
open Go.RowKit Go.Proofs.Ytnkkgofpifhoeaa.Base Go.Proofs.Ytnkkgofpifhoeaa.Steps Go.Proofs.YtnkkgofpifhoeaaW.PrintWords Go.Proofs.YtnkkgofpifhoeaaW.PrintLast
set_option linter.unusedSimpArgs false
set_option linter.unusedVariables false
def ageF (L : Lk) (boot mine : Int) : Int := if boot < L.boot then -1 else if boot = L.boot then (if mine < L.yours then -1 else if mine = L.yours then 0 else 1) else 1
set_option maxHeartbeats 1000000 in
theorem age_of {w : World} {B g : Nat} {okq oko : Nat → Prop} {L : Lk} {q o : Value} (h : At w B okq oko g L q o) (boot mine : Int) : Calls Try.prog 76 #[.pointer (some ⟨g, 0, none⟩), .int .u32 boot, .int .u32 mine] w fun e w' => e = .returned (.int .i64 (ageF L boot mine)) ∧ w = w' := by
  have hc3 : w.cell? ⟨g, 3, none⟩ = some (.int .u32 L.boot) := (blk_cell h.blk 3).trans rfl
  have hc4 : w.cell? ⟨g, 4, none⟩ = some (.int .u32 L.yours) := (blk_cell h.blk 4).trans rfl
  clear h
  unfold ageF
  generalize L.boot = lb at *
  generalize L.yours = ly at *
  by_cases h1 : boot < lb
  · rw [if_pos h1]
    go_enter Try.func76, Try.ntmps76
    go_wp2
    all_goals (go_ret; exact ⟨rfl, rfl⟩)
  · rw [if_neg h1]
    by_cases h2 : boot = lb
    · subst h2
      rw [if_pos rfl]
      by_cases h3 : mine < ly
      · rw [if_pos h3]
        go_enter Try.func76, Try.ntmps76
        go_wp2
        all_goals (go_ret; exact ⟨rfl, rfl⟩)
      · rw [if_neg h3]
        by_cases h4 : mine = ly
        · subst h4
          rw [if_pos rfl]
          go_enter Try.func76, Try.ntmps76
          go_wp2
          all_goals (go_ret; exact ⟨rfl, rfl⟩)
        · rw [if_neg h4]
          go_enter Try.func76, Try.ntmps76
          go_wp2
          all_goals (go_ret; exact ⟨rfl, rfl⟩)
    · rw [if_neg h2]
      go_enter Try.func76, Try.ntmps76
      go_wp2
      all_goals (go_ret; exact ⟨rfl, rfl⟩)
end Go.Proofs.Ytnkkgofpifhoeaa.Lk
