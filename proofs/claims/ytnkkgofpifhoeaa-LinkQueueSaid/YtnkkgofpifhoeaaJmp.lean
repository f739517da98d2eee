/- A scope in which the run jumps ahead by goto, to any of its labels, at most n times. No program here. -/
import Derived.Scope
import Derived.Lib.Hide
import Derived.WalkMore
import Derived.ScopeJumps
namespace Go.Proofs.Ytnkkgofpifhoeaa.Jmp
/-- As Q; by a goto to label l of c: what lies behind the label goes on, with one jump less. -/
def Jump (P : Program) (c : Code) (Q : Exit → Act → World → Prop) : Nat → Exit → Act → World → Prop
  | 0, .goto _, _, _ => False
  | n + 1, .goto l, a, w => ∃ rest, findLabel c l = some rest ∧ rest.wp P (Jump P c Q n) a w
  | _, .normal, a, w => Q .normal a w
  | _, .exit i, a, w => Q (.exit i) a w
  | _, .ret, a, w => Q .ret a w
  | _, .panic ch, a, w => Q (.panic ch) a w
  | _, .outgrown, a, w => Q .outgrown a w
section
variable {P : Program} {a : Act} {w : World} {Q : Exit → Act → World → Prop} {c : Code}
theorem Jump.ret {n : Nat} (h : Q .ret a w) : Jump P c Q n .ret a w := by cases n <;> exact h
theorem Jump.normal {n : Nat} (h : Q .normal a w) : Jump P c Q n .normal a w := by cases n <;> exact h
theorem Jump.goto {n l : Nat} {C rest : Code} (hc : c = C) (hf : findLabel c l = some rest) (h : rest.wp P (Jump P C Q n) a w) : Jump P C Q (n + 1) (.goto l) a w := by
  subst hc
  exact ⟨rest, hf, h⟩
theorem wp_scope_jump (n : Nat) (h : c.wp P (Jump P c Q n) a w) : (Code.scope c).wp P Q a w := by
  intro b k cs
  have hg : ∀ l rest, findLabel c l = some rest → gotoIn l (.inScope c :: k) = some (.code rest :: .inScope c :: k) := by
    intro l rest hf
    simp [gotoIn, hf]
  have key : ∀ n (x : Code) a w, x.wp P (Jump P c Q n) a w → ∃ e a' w', Q e a' w' ∧ Arrives P (lone (b.at a (.code x :: .inScope c :: k)) cs w) b k cs e a' w' := by
    intro n
    induction n with
    | zero =>
      intro x a w hx
      obtain ⟨e, a₁, w₁, hq, harr⟩ := hx b (.inScope c :: k) cs
      cases e with
      | normal => exact ⟨.normal, a₁, w₁, hq, Steps.trans harr (.one step_inScope)⟩
      | exit id => exact ⟨.exit id, a₁, w₁, hq, fun k' hk => harr k' (by simp [exitTo, hk])⟩
      | goto l' => exact hq.elim
      | ret => exact ⟨_, a₁, w₁, hq, harr⟩
      | panic ch => exact ⟨_, a₁, w₁, hq, harr⟩
      | outgrown => exact ⟨_, a₁, w₁, hq, harr⟩
    | succ n ih =>
      intro x a w hx
      obtain ⟨e, a₁, w₁, hq, harr⟩ := hx b (.inScope c :: k) cs
      cases e with
      | normal => exact ⟨.normal, a₁, w₁, hq, Steps.trans harr (.one step_inScope)⟩
      | exit id => exact ⟨.exit id, a₁, w₁, hq, fun k' hk => harr k' (by simp [exitTo, hk])⟩
      | goto l' =>
        obtain ⟨rest, hf, hr⟩ := hq
        obtain ⟨e₂, a₂, w₂, hq₂, harr₂⟩ := ih rest a₁ w₁ hr
        exact ⟨e₂, a₂, w₂, hq₂, .of_steps (harr _ (hg l' rest hf)) harr₂⟩
      | ret => exact ⟨_, a₁, w₁, hq, harr⟩
      | panic ch => exact ⟨_, a₁, w₁, hq, harr⟩
      | outgrown => exact ⟨_, a₁, w₁, hq, harr⟩
  obtain ⟨e, a₁, w₁, hq, harr⟩ := key n c a w h
  cases e with
  | normal => exact ⟨.normal, a₁, w₁, hq, .head step_scope harr⟩
  | exit id => exact ⟨.exit id, a₁, w₁, hq, fun k' hk => .head step_scope (harr k' hk)⟩
  | goto l' =>
    refine ⟨.goto l', a₁, w₁, hq, fun k' hk => .head step_scope (harr k' hk)⟩
  | ret => exact ⟨_, a₁, w₁, hq, .of_steps (.one step_scope) harr⟩
  | panic ch => exact ⟨_, a₁, w₁, hq, .of_steps (.one step_scope) harr⟩
  | outgrown => exact ⟨_, a₁, w₁, hq, .of_steps (.one step_scope) harr⟩
theorem wp_scope_hid (n : Nat) (h : ∀ C, RowKit.Hid (c = C) → c.wp P (Jump P C Q n) a w) : (Code.scope c).wp P Q a w := wp_scope_jump n (h c (Lib.hid rfl))
end
end Go.Proofs.Ytnkkgofpifhoeaa.Jmp
