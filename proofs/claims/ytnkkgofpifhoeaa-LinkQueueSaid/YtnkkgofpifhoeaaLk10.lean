/- What a method leaves, told without the blocks; Send. -/
import Derived.Test.YtnkkgofpifhoeaaLk9
namespace Go.Proofs.Ytnkkgofpifhoeaa.Lk
open Go.RowKit Go.Proofs.Ytnkkgofpifhoeaa.Base Go.Proofs.Ytnkkgofpifhoeaa.Steps Go.Proofs.YtnkkgofpifhoeaaW.PrintWords Go.Proofs.YtnkkgofpifhoeaaW.PrintLast
set_option linter.unusedSimpArgs false
set_option linter.unusedVariables false
/-- An end whose blocks are among own. -/
def End (w : World) (B : Nat) (own : Nat → Prop) (g : Nat) (L : Lk) : Prop := ∃ okq oko q o, At w B okq oko g L q o ∧ ∀ k, holds okq oko g k → own k
/-- Behind a method of the end. -/
def Turns (w : World) (B : Nat) (own : Nat → Prop) (g : Nat) (L : Lk) (w' : World) : Prop :=
  End w' B (fun k => own k ∨ w.heap.size ≤ k ∧ k < w'.heap.size) g L ∧ Kept w w' own ∧ Below B w w'
theorem End.mono {w : World} {B g : Nat} {own own' : Nat → Prop} {L : Lk} (h : End w B own g L) (hm : ∀ k, own k → own' k) : End w B own' g L := by
  obtain ⟨a, b, q, o, h1, h2⟩ := h
  exact ⟨a, b, q, o, h1, fun k hk => hm k (h2 k hk)⟩
theorem End.kept {w w1 : World} {B g : Nat} {own S : Nat → Prop} {L : Lk} (h : End w B own g L) (hk : Kept w w1 S) (hd : ∀ k, own k → ¬ S k) : End w1 B own g L := by
  obtain ⟨a, b, q, o, h1, h2⟩ := h
  exact ⟨a, b, q, o, h1.kept hk (fun k hh => hd k (h2 k hh)), h2⟩
theorem End.bound {w : World} {B g : Nat} {own : Nat → Prop} {L : Lk} (h : End w B own g L) : End w B (fun k => own k ∧ k < w.heap.size) g L := by
  obtain ⟨a, b, q, o, h1, h2⟩ := h
  refine ⟨a, b, q, o, h1, fun k hk => ⟨h2 k hk, ?_⟩⟩
  rcases hk with hk | hk | hk
  · exact (h1.old k (.inl hk)).1
  · exact (h1.old k (.inr hk)).1
  · exact hk ▸ blk_lt h1.blk
theorem Turns.same {w : World} {B g : Nat} {own : Nat → Prop} {L : Lk} (h : End w B own g L) : Turns w B own g L w := ⟨h.mono (fun _ hk => .inl hk), Kept.refl _ _, Below.refl _ _⟩
theorem Turns.trans {w w1 w2 : World} {B g : Nat} {own : Nat → Prop} {L L2 : Lk} (h : Turns w B own g L w1) (h2 : Turns w1 B (fun k => own k ∨ w.heap.size ≤ k ∧ k < w1.heap.size) g L2 w2) : Turns w B own g L2 w2 := by
  obtain ⟨a, b, c⟩ := h
  obtain ⟨a2, b2, c2⟩ := h2
  have h1 := b.1
  have h3 := b2.1
  refine ⟨a2.mono (fun k hk => ?_), b.then_ b2 (fun k hk => ?_), c.trans c2⟩
  · rcases hk with (hk | hk) | hk
    · exact .inl hk
    · exact .inr ⟨hk.1, by omega⟩
    · exact .inr ⟨by omega, hk.2⟩
  · rcases hk with hk | hk
    · exact .inl hk
    · exact .inr hk.1
theorem Turns.below {w w1 w2 : World} {B g : Nat} {own : Nat → Prop} {L : Lk} (h : Turns w B own g L w1) (hB : B ≤ w.heap.size) (hb : Below w1.heap.size w1 w2) : Turns w B own g L w2 := by
  have h1 := h.2.1.1
  refine h.trans ⟨(h.1.kept (Kept.of_below hb (fun _ => False)) (fun _ _ hf => hf)).mono (fun _ hk => .inl hk), Kept.of_below hb _, hb.mono (by omega)⟩
theorem Turns.after {w w1 w2 : World} {B g : Nat} {own : Nat → Prop} {L : Lk} (hb : Below w.heap.size w w1) (hB : B ≤ w.heap.size) (h : Turns w1 B own g L w2) : Turns w B own g L w2 := by
  have h1 := hb.size
  refine ⟨h.1.mono (fun k hk => hk.elim .inl (fun hn => .inr ⟨by omega, hn.2⟩)), (Kept.of_below hb own).then_ h.2.1 (fun k hk => .inl hk), (hb.mono hB).trans h.2.2⟩
theorem Emits.turns {w w' : World} {B g : Nat} {okq oko own : Nat → Prop} {L : Lk} {q : Value} (ho : ∀ k, holds okq oko g k → own k) (h : Emits w B okq oko g L q w') : Turns w B own g L w' := by
  obtain ⟨o, a, k1, b1⟩ := h
  refine ⟨⟨_, _, q, o, a, fun k hk => ?_⟩, k1.mono (fun k hk => ho k (.inr hk)), b1⟩
  rcases hk with hk | (hk | hk) | hk
  · exact .inl (ho k (.inl hk))
  · exact .inl (ho k (.inr (.inl hk)))
  · exact .inr hk
  · exact .inl (ho k (.inr (.inr hk)))
theorem Drops.turns {w w' : World} {B g : Nat} {okq oko own : Nat → Prop} {L : Lk} (ho : ∀ k, holds okq oko g k → own k) (h : Drops w B okq oko g L w') : Turns w B own g L w' := by
  obtain ⟨okq', q, hqq, o, a, k1, b1⟩ := h
  refine ⟨⟨_, _, q, o, a, fun k hk => ?_⟩, k1.mono (fun k hk => ho k (.inr hk)), b1⟩
  rcases hk with hk | (hk | hk) | hk
  · exact .inl (ho k (.inl (hqq k hk)))
  · exact .inl (ho k (.inr (.inl hk)))
  · exact .inr hk
  · exact .inl (ho k (.inr (.inr hk)))
def sendE (L : Lk) (n : Nat) : Int := if L.phase = 2 then (if n = 0 ∨ 1000 < n then 112 else if 64 ≤ L.queue.length then 113 else 0) else 110
def sendL (L : Lk) (body : List Int) : Lk := if sendE L body.length = 0 then fill_ { L with queue := L.queue ++ [body] } else L
theorem info22 : (Try.prog.info? 22).map (fun i => (i.zero, i.size, i.bytes)) = some (some (.slice none 0 0), 1, 24) := by kernel_rfl
theorem sendq_ok {L : Lk} (h : L.Ok) {body : List Int} (hl : body.length ≤ 1000) (hq : L.queue.length < 64) : ({ L with queue := L.queue ++ [body] } : Lk).Ok := by
  have := h.sent
  refine ⟨h.own, h.phase, h.token, h.boot, h.yours, by show (L.queue ++ [body]).length ≤ 64; simp; omega, fun r hr => ?_, ⟨this.1, by show L.sent ≤ ((L.queue ++ [body]).length : Int); simp; omega, this.2.2⟩, h.base, h.expected, h.idle, h.out⟩
  rcases List.mem_append.1 hr with hr | hr
  · exact h.rows r hr
  · rw [List.mem_singleton.1 hr]; exact hl
theorem fillN_ok (n : Nat) {L : Lk} (h : L.Ok) : (fillN n L).Ok := by
  induction n generalizing L with
  | zero => exact h
  | succ n ih =>
    unfold fillN
    split
    · rename_i hc; exact ih (sendOne_ok h hc.1 hc.2)
    · exact h
theorem fill_ok {L : Lk} (h : L.Ok) : (fill_ L).Ok := fillN_ok _ h
theorem sendL_ok {L : Lk} (h : L.Ok) {body : List Int} : (sendL L body).Ok := by
  unfold sendL
  split
  · rename_i hc
    unfold sendE at hc
    refine fill_ok (sendq_ok h ?_ ?_) <;> (split at hc <;> (try split at hc) <;> (try split at hc) <;> omega)
  · exact h
set_option maxRecDepth 100000 in
set_option maxHeartbeats 1000000 in
theorem send_shut {w : World} {B g : Nat} {okq oko : Nat → Prop} {L : Lk} {q o : Value} (h : At w B okq oko g L q o) (hok : L.Ok) (hB : B ≤ w.heap.size) (body : List Int) (Ab : Option Addr) (cb : Nat) (hC : (Kd.int .u8).C w Ab body.length body) (hp : ¬ L.phase = 2) :
    Calls Try.prog 30 #[.pointer (some ⟨g, 0, none⟩), .slice Ab body.length cb] w fun e w' => e = .returned (.int .i64 110) ∧ w = w' := by
  have hc1 : w.cell? ⟨g, 1, none⟩ = some (.int .i64 L.phase) := (blk_cell h.blk 1).trans rfl
  clear h hok hC
  generalize L.phase = ph at *
  go_enter Try.func30, Try.ntmps30
  go_wp2
  all_goals (go_ret; exact ⟨rfl, rfl⟩)
set_option maxRecDepth 100000 in
set_option maxHeartbeats 1000000 in
theorem send_long {w : World} {B g : Nat} {okq oko : Nat → Prop} {L : Lk} {q o : Value} (h : At w B okq oko g L q o) (hok : L.Ok) (hB : B ≤ w.heap.size) (body : List Int) (Ab : Option Addr) (cb : Nat) (hC : (Kd.int .u8).C w Ab body.length body) (hp : L.phase = 2) (hl : body.length = 0 ∨ 1000 < body.length) :
    Calls Try.prog 30 #[.pointer (some ⟨g, 0, none⟩), .slice Ab body.length cb] w fun e w' => e = .returned (.int .i64 112) ∧ ∃ m, w' = w.drewN m := by
  have hc1 : w.cell? ⟨g, 1, none⟩ = some (.int .i64 2) := (blk_cell h.blk 1).trans (by rw [← hp]; rfl)
  clear h hok hC hp
  generalize body.length = n at *
  by_cases hz : n = 0
  · subst hz
    clear hl
    go_enter Try.func30, Try.ntmps30
    go_wp2_with fail
    try go_quiet (fail)
    go_wp2
    all_goals (go_ret; first | exact ⟨rfl, 0, rfl⟩ | exact ⟨rfl, _, rfl⟩)
  · have hd : ((n : Int) == 0) = false := by simp; omega
    have hd2 : decide ((1000 : Int) < n) = true := by simp; omega
    have hd3 : decide ((n : Int) > 1000) = true := by simp; omega
    go_enter Try.func30, Try.ntmps30
    go_wp2_with fail
    try go_quiet (fail)
    go_wp2
    all_goals (go_ret; first | exact ⟨rfl, 0, rfl⟩ | exact ⟨rfl, _, rfl⟩)
set_option maxRecDepth 100000 in
set_option maxHeartbeats 1000000 in
theorem send_full {w : World} {B g : Nat} {okq oko : Nat → Prop} {L : Lk} {q o : Value} (h : At w B okq oko g L q o) (hok : L.Ok) (hB : B ≤ w.heap.size) (body : List Int) (Ab : Option Addr) (cb : Nat) (hC : (Kd.int .u8).C w Ab body.length body) (hp : L.phase = 2) (hl : ¬ (body.length = 0 ∨ 1000 < body.length)) (hq : 64 ≤ L.queue.length) :
    Calls Try.prog 30 #[.pointer (some ⟨g, 0, none⟩), .slice Ab body.length cb] w fun e w' => e = .returned (.int .i64 113) ∧ ∃ m, w' = w.drewN m := by
  have hc1 : w.cell? ⟨g, 1, none⟩ = some (.int .i64 2) := (blk_cell h.blk 1).trans (by rw [← hp]; rfl)
  obtain ⟨A6, c6, hq6, hl6⟩ := Kd.Q_slice h.queue
  have hc6 : w.cell? ⟨g, 6, none⟩ = some (.slice A6 L.queue.length c6) := (blk_cell h.blk 6).trans (by rw [hq6]; rfl)
  clear h hok hC hp hq6 hl6
  generalize body.length = n at *
  generalize L.queue.length = qn at *
  have hd : ((n : Int) == 0) = false := by simp; omega
  have hd2 : decide ((1000 : Int) < n) = false := by simp; omega
  have hd3 : decide ((n : Int) > 1000) = false := by simp; omega
  have hd4 : decide ((qn : Int) ≥ 64) = true := by simp; omega
  have hd5 : decide ((64 : Int) ≤ qn) = true := by simp; omega
  go_enter Try.func30, Try.ntmps30
  go_wp2_with fail
  try go_quiet (fail)
  go_wp2
  all_goals (go_ret; first | exact ⟨rfl, 0, rfl⟩ | exact ⟨rfl, _, rfl⟩)
set_option maxRecDepth 100000 in
set_option maxHeartbeats 1000000 in
theorem send_ok {w : World} {B g : Nat} {okq oko : Nat → Prop} {L : Lk} {q o : Value} (h : At w B okq oko g L q o) (hok : L.Ok) (hB : B ≤ w.heap.size) (body : List Int) (Ab : Option Addr) (cb : Nat) (hC : (Kd.int .u8).C w Ab body.length body) (hp : L.phase = 2) (hl : ¬ (body.length = 0 ∨ 1000 < body.length)) (hq : ¬ 64 ≤ L.queue.length) {own : Nat → Prop} (ho : ∀ k, holds okq oko g k → own k) :
    Calls Try.prog 30 #[.pointer (some ⟨g, 0, none⟩), .slice Ab body.length cb] w fun e w' => e = .returned (.int .i64 0) ∧ Turns w B own g (fill_ { L with queue := L.queue ++ [body] }) w' := by
  have hc1 : w.cell? ⟨g, 1, none⟩ = some (.int .i64 2) := (blk_cell h.blk 1).trans (by rw [← hp]; rfl)
  obtain ⟨A6, c6, hq6, hl6⟩ := Kd.Q_slice h.queue
  have hc6 : w.cell? ⟨g, 6, none⟩ = some (.slice A6 L.queue.length c6) := (blk_cell h.blk 6).trans (by rw [hq6]; rfl)
  have hgl : g < w.heap.size := blk_lt h.blk
  subst hq6
  have H0 := Lib.hid h
  have OK := Lib.hid hok
  have HCB := Lib.hid hC
  have HBL := Lib.hid hl
  have HQL := Lib.hid hq
  have HOW := Lib.hid ho
  clear h hok hC hp hl6 ho
  generalize hn : body.length = n at *
  generalize hqn : L.queue.length = qn at *
  have HN := Lib.hid hn
  have HQN := Lib.hid hqn
  clear hn hqn
  have hd : ((n : Int) == 0) = false := by simp; omega
  have hd3 : decide ((n : Int) > 1000) = false := by simp; omega
  have hd4 : decide ((qn : Int) ≥ 64) = false := by simp; omega
  go_enter Try.func30, Try.ntmps30
  go_wp2_with fail
  try go_quiet (fail)
  go_wp2_with fail
  have hSS : w.drew.heap[g]? = some (.cells (row L (.slice A6 qn c6) o) 131 (0, 0)) := H0.out.blk
  have hbd : Below w.heap.size w w.drew := bl_drew (Below.refl _ _)
  have hsz : w.drew.heap.size = w.heap.size := rfl
  clear hc1 hc6 hd hd3 hd4 hl hq
  refine start_ (n := 12) (S := fun w' => w'.heap[g]? = some (.cells (row L (.slice A6 qn c6) o) 131 (0, 0))) (ds := [11]) #[false, false, false, false, false, false, false, false, false, false, false, false] (by kernel_rfl) rfl rfl (hSS) (fun hHeld => ?_)
  generalize w.drew = w2 at hbd hsz hHeld ⊢
  have HBW := Lib.hid hbd
  have HSZ := Lib.hid hsz
  clear hbd hsz
  refine pure_ (i := 0) (N := some 30) (v := ?_) (a' := ?_) #[true, false, false, false, false, false, false, false, false, false, false, false] rfl rfl (by kernel_rfl) (fun _ _ _ h => h) (Or.inl ⟨by rfl, ?_⟩) ?_ ?_
  rotate_left
  · intro w'
    go_simp
    with_reducible rfl
  rotate_left
  · simp only [Act.put, List.setIfInBounds_toArray, List.set_cons_zero, List.set_cons_succ]
    rfl
  refine pure_ (i := 1) (N := some 31) (v := ?_) (a' := ?_) #[true, true, false, false, false, false, false, false, false, false, false, false] rfl rfl (by kernel_rfl) (fun _ _ _ h => h) (Or.inl ⟨by rfl, ?_⟩) ?_ ?_
  rotate_left
  · intro w'
    go_simp
    with_reducible rfl
  rotate_left
  · simp only [Act.put, List.setIfInBounds_toArray, List.set_cons_zero, List.set_cons_succ]
    rfl
  refine pure_ (i := 2) (N := some 32) (v := ?_) (a' := ?_) #[true, true, true, false, false, false, false, false, false, false, false, false] rfl rfl (by kernel_rfl) (fun _ _ _ h => h) (Or.inl ⟨by rfl, ?_⟩) ?_ ?_
  rotate_left
  · intro w'
    go_simp
    with_reducible rfl
  rotate_left
  · simp only [Act.put, List.setIfInBounds_toArray, List.set_cons_zero, List.set_cons_succ]
    rfl
  refine pure_ (i := 3) (N := some 33) (v := ?_) (a' := ?_) #[true, true, true, true, false, false, false, false, false, false, false, false] rfl rfl (by kernel_rfl) (fun _ _ _ h => h) (Or.inl ⟨by rfl, ?_⟩) ?_ ?_
  rotate_left
  · intro w'
    go_simp
    with_reducible rfl
  rotate_left
  · simp only [Act.put, List.setIfInBounds_toArray, List.set_cons_zero, List.set_cons_succ]
    rfl
  refine take_ (i := 4) (N := some 34) (v := ?_) (a' := ?_) #[true, true, true, true, true, false, false, false, false, false, false, false] rfl rfl (by kernel_rfl) (fun _ _ _ h => h) (Or.inl ⟨by rfl, ?_⟩) hHeld ?_ ?_
  rotate_left
  · intro w' s0
    have hc6 : w'.cell? ⟨g, 6, none⟩ = some (.slice A6 qn c6) := (blk_cell s0 6).trans rfl
    clear s0
    go_simp
    with_reducible rfl
  rotate_left
  · simp only [Act.put, List.setIfInBounds_toArray, List.set_cons_zero, List.set_cons_succ]
    rfl
  refine pure_ (i := 5) (N := some 35) (v := ?_) (a' := ?_) #[true, true, true, true, true, true, false, false, false, false, false, false] rfl rfl (by kernel_rfl) (fun _ _ _ h => h) (Or.inl ⟨by rfl, ?_⟩) ?_ ?_
  rotate_left
  · intro w'
    go_simp
    with_reducible rfl
  rotate_left
  · simp only [Act.put, List.setIfInBounds_toArray, List.set_cons_zero, List.set_cons_succ]
    rfl
  refine one_ (i := 6) (N := some 36) #[true, true, true, true, true, true, true, false, false, false, false, false] rfl rfl (by kernel_rfl) (by decide) (fun K hK => ?_)
  refine Kd.R_append_rows_step (Kd.int .u8) (Rr := fun x cs => cs = [Value.int .u8 x]) (w0 := w) B (by rfl) (.const (.slice none 0 0)) (.tmp 35) 22 5 (.int .u8 0) 1 rfl Try.underlying22 info5' rfl (by decide) (by decide) (.slice none 0 0) [] body Ab n cb (fun k => w2.heap.size ≤ k) (fun _ => False) rfl rfl (Kd.R_nil _ _ _ _ _) (Kd.C_below (by have := HCB.out; rwa [← HN.out] at this ⊢) HBW.out) (fun _ _ hx => hx) (fun _ hf => hf.elim) (fun k hk => hk) (HBW.out.mono hB) (by have := HSZ.out; omega) (by have := HBL.out; have := HN.out; simp; omega) ?_
  intro v1 w3 hR hbl hg _
  obtain ⟨A1, c1, hv1⟩ := Kd.R_slice hR
  subst hv1
  have hbg : Below w2.heap.size w2 w3 := ⟨hg.os, hg.tape, hg.output, hg.size, fun k hk => hg.block k hk (by simp [Value.ownBlock])⟩
  have hb3 : Below w.heap.size w w3 := HBW.out.trans (hbg.mono HBW.out.size)
  have HB3 := Lib.hid hb3
  have HR3 := Lib.hid (show (Kd.int .u8).R 5 w3 B (fun k => w2.heap.size ≤ k) _ body from hR)
  have hS3 : w3.heap[g]? = some (.cells (row L (.slice A6 qn c6) o) 131 (0, 0)) := (hbg.block g (blk_lt hHeld)).trans hHeld
  clear hR hbl hg hbg hb3 hHeld
  refine hK.out _ _ hS3 (fun hHeld => ?_)
  clear hK K hS3
  refine norm_ (a' := ?_) ?_ ?_
  rotate_left
  · show Act.put _ (some 36) _ = _
    simp only [Act.put, List.setIfInBounds_toArray, List.set_cons_zero, List.set_cons_succ]
    rfl
  refine one_ (i := 7) (N := some 37) #[true, true, true, true, true, true, true, true, false, false, false, false] rfl rfl (by kernel_rfl) (by decide) (fun K hK => ?_)
  refine value_ (v := .slice (some ⟨w3.heap.size, 0, none⟩) 1 1) (by rfl) rfl (w1 := w3.alloc (.cells #[.slice A1 ([] ++ body).length c1] 22)) ?_ ?_
  · first | (go_simp; done) | (go_simp; rfl)
  have hb4 := (Below.refl w3.heap.size w3).alloc (Nat.le_refl _) (.cells #[.slice A1 ([] ++ body).length c1] 22)
  have HS3 := Lib.hid hHeld
  refine hK.out _ _ ((hb4.block g (blk_lt hHeld)).trans hHeld) (fun hHeld => ?_)
  clear hK K
  refine norm_ (a' := ?_) ?_ ?_
  rotate_left
  · show Act.put _ (some 37) _ = _
    simp only [Act.put, List.setIfInBounds_toArray, List.set_cons_zero, List.set_cons_succ]
    rfl
  refine one_ (i := 8) (N := some 38) #[true, true, true, true, true, true, true, true, true, false, false, false] rfl rfl (by kernel_rfl) (by decide) (fun K hK => ?_)
  have hq3 := Kd.Q_below H0.out.queue HB3.out
  have hown : ∀ k, (Value.slice A6 qn c6).ownBlock = some k → okq k := fun k hk => Kd.Q_ok H0.out.queue k hk
  have hR3 : (Kd.int .u8).R 5 w3 B (fun k => w2.heap.size ≤ k ∧ k < w3.heap.size) (.slice A1 ([] ++ body).length c1) body := Kd.R_mono (Kd.R_bound HR3.out) (fun k hk => ⟨hk.1, hk.2.2.1⟩)
  have hM3 : bytes.M w3 B (fun k => w2.heap.size ≤ k ∧ k < w3.heap.size) body [.slice A1 ([] ++ body).length c1] := ⟨_, rfl, hR3⟩
  refine Kd.Q_append_step (W := w3) (w0 := w) bytes B ?hw (.tmp 34) (.tmp 37) 45 22 (.slice none 0 0) 24 ?ho ?ht ?hi ?hz ?hs0 ?hb0 (.slice A6 qn c6) L.queue body [.slice A1 ([] ++ body).length c1] (fun k => okq k ∨ w.heap.size ≤ k) (fun k => w2.heap.size ≤ k ∧ k < w3.heap.size) ?hs ?hx ?hp ?hokp ?hf ?HO ?HB ?hb ?hl ?h
  case hw => rfl
  case ho => rfl
  case ht => exact Try.underlying45
  case hi => exact info22
  case hz => rfl
  case hs0 => decide
  case hb0 => decide
  case hs => rfl
  case hx => rfl
  case hp => exact hM3
  case hokp => exact fun k hk => ⟨.inr (by have := HSZ.out; omega), fun he => by have := (H0.out.old k (.inl (hown k he.symm))).1; have := HSZ.out; omega⟩
  case hf => exact fun k hk => .inr (by have := HB3.out.size; omega)
  case HO => exact Kd.Q_mono hq3 (fun _ hk => .inl hk)
  case HB => exact HB3.out.mono hB
  case hb => have := HB3.out.size; omega
  case hl => have := HQN.out; have := HQL.out; omega
  intro o1 w4 hQ hbl hg _
  obtain ⟨A2, c2, ho1, hlo⟩ := Kd.Q_slice hQ
  generalize (L.queue ++ [body]).length = n1 at ho1
  subst ho1
  have hK4 : Kept w w4 okq := Kept.of_grown hg (Kept.of_below HB3.out okq) (fun k hk => .inl (hown k hk))
  have hX4 : w4.heap[g]? = some (.cells (row L (.slice A6 qn c6) o) 131 (0, 0)) := blk_kept H0.out.blk hK4 (fun ho => (H0.out.old g (.inl ho)).2 rfl)
  have HK4 := Lib.hid hK4
  have HX4 := Lib.hid hX4
  have HQ4 := Lib.hid hQ
  have HBL4 := Lib.hid hbl
  clear hbl hg hown HS3 hq3 hR3 hM3 hK4 hQ hlo hHeld
  refine hK.out _ _ hX4 (fun hHeld => ?_)
  clear hK K hX4
  refine norm_ (a' := ?_) ?_ ?_
  rotate_left
  · show Act.put _ (some 38) _ = _
    simp only [Act.put, List.setIfInBounds_toArray, List.set_cons_zero, List.set_cons_succ]
    rfl
  refine pure_ (i := 9) (N := some 39) (v := ?_) (a' := ?_) #[true, true, true, true, true, true, true, true, true, true, false, false] rfl rfl (by kernel_rfl) (fun _ _ _ h => h) (Or.inl ⟨by rfl, ?_⟩) ?_ ?_
  rotate_left
  · intro w'
    go_simp
    with_reducible rfl
  rotate_left
  · simp only [Act.put, List.setIfInBounds_toArray, List.set_cons_zero, List.set_cons_succ]
    rfl
  refine pure_ (i := 10) (N := some 40) (v := ?_) (a' := ?_) #[true, true, true, true, true, true, true, true, true, true, true, false] rfl rfl (by kernel_rfl) (fun _ _ _ h => h) (Or.inl ⟨by rfl, ?_⟩) ?_ ?_
  rotate_left
  · intro w'
    go_simp
    with_reducible rfl
  rotate_left
  · simp only [Act.put, List.setIfInBounds_toArray, List.set_cons_zero, List.set_cons_succ]
    rfl
  refine last_ (i := 11) (N := none) #[true, true, true, true, true, true, true, true, true, true, true, true] rfl rfl (by kernel_rfl) (by decide) (fun K hK => ?_)
  have hz1 : w4.cell? ⟨g, 6, none⟩ = some (.slice A6 qn c6) := (blk_cell HX4.out 6).trans rfl
  have hz2 := blk_frozen HX4.out 6
  refine skip_F (fun wz => At wz B (fun k => okq k ∨ w.heap.size ≤ k ∧ k < w4.heap.size) oko g { L with queue := L.queue ++ [body] } (.slice A2 n1 c2) o ∧ wz.heap.size = w4.heap.size ∧ Kept w wz (fun k => okq k ∨ k = g) ∧ Below B w wz) (by rfl) rfl ⟨_, by first | (go_simp; done) | (go_simp; rfl), ?_, ?_, ?_, ?_⟩ (fun w5 hF => ?_)
  · have hs4 := HK4.out.1
    have hgl := hgl
    refine At.put' HX4.out 6 _ rfl (Kd.Q_mono (Kd.Q_bound HQ4.out) (fun k hk => hk.1.elim (fun h => .inl h) (fun h => .inr ⟨h, hk.2.2.1⟩))) (Kd.R_kept H0.out.out HK4.out (fun k ho hq => H0.out.apart k hq ho)) H0.out.low (fun k hk ho => hk.elim (fun h => H0.out.apart k h ho) (fun hn => by have := (H0.out.old k (.inr ho)).1; omega)) (fun k hk => ?_)
    rcases hk with (hk | hk) | hk
    · have := H0.out.old k (.inl hk); exact ⟨by omega, this.2⟩
    · exact ⟨hk.2, by omega⟩
    · have := H0.out.old k (.inr hk); exact ⟨by omega, this.2⟩
  · simp [World.setCell]
  · exact (HK4.out.mono (fun k hk => .inl hk)).setCell (p := ⟨g, 6, none⟩) (.inl (.inr rfl)) _
  · exact HBL4.out.setCell (p := ⟨g, 6, none⟩) H0.out.low _
  have HF := Lib.hid hF
  clear hF hz1 hz2 hHeld
  refine hK.out _ _ ?_
  clear hK K
  refine done_ (by kernel_rfl) ?_
  have OK5 := Lib.hid (sendq_ok OK.out (body := body) (by have := HBL.out; have := HN.out; omega) (by have := HQL.out; have := HQN.out; omega))
  go_wp2_with (first | (go_at_call 74; (refine (fill_of HF.out.1 OK5.out (by rw [HF.out.2.1]; exact Nat.le_trans hB HK4.out.1)).mono ?_); (rintro e w9 ⟨rfl, hE⟩); (have HE := Lib.hid hE); (clear hE)))
  all_goals (go_ret; refine ⟨rfl, ?_⟩)
  refine Turns.trans (L := { L with queue := L.queue ++ [body] }) ⟨⟨_, _, _, _, HF.out.1, fun k hk => ?_⟩, HF.out.2.2.1.mono (fun k hk => HOW.out k (hk.elim .inl (fun h => .inr (.inr h)))), HF.out.2.2.2⟩ (Emits.turns (fun k hk => ?_) HE.out)
  · rw [HF.out.2.1]
    rcases hk with (hk | hk) | hk | hk
    · exact .inl (HOW.out k (.inl hk))
    · exact .inr hk
    · exact .inl (HOW.out k (.inr (.inl hk)))
    · exact .inl (HOW.out k (.inr (.inr hk)))
  · rw [HF.out.2.1]
    rcases hk with (hk | hk) | hk | hk
    · exact .inl (HOW.out k (.inl hk))
    · exact .inr hk
    · exact .inl (HOW.out k (.inr (.inl hk)))
    · exact .inl (HOW.out k (.inr (.inr hk)))
set_option maxRecDepth 100000 in
set_option maxHeartbeats 1000000 in
theorem send_of {w : World} {B g : Nat} {okq oko : Nat → Prop} {L : Lk} {q o : Value} (h : At w B okq oko g L q o) (hok : L.Ok) (hB : B ≤ w.heap.size) (body : List Int) (Ab : Option Addr) (cb : Nat) (hC : (Kd.int .u8).C w Ab body.length body) {own : Nat → Prop} (ho : ∀ k, holds okq oko g k → own k) :
    Calls Try.prog 30 #[.pointer (some ⟨g, 0, none⟩), .slice Ab body.length cb] w fun e w' => e = .returned (.int .i64 (sendE L body.length)) ∧ Turns w B own g (sendL L body) w' := by
  have same : ∀ m, Turns w B own g L (w.drewN m) := fun m => (Turns.same ⟨okq, oko, q, o, h, ho⟩).below hB (pw_below_drewN (Below.refl _ _) m)
  by_cases hp : L.phase = 2
  · by_cases hl : body.length = 0 ∨ 1000 < body.length
    · have hE : sendE L body.length = 112 := by unfold sendE; rw [if_pos hp, if_pos hl]
      have hL : sendL L body = L := by unfold sendL; rw [hE, if_neg (by decide)]
      rw [hE, hL]
      refine (send_long h hok hB body Ab cb hC hp hl).mono ?_
      rintro e w' ⟨rfl, m, rfl⟩
      exact ⟨rfl, same m⟩
    · by_cases hq : 64 ≤ L.queue.length
      · have hE : sendE L body.length = 113 := by unfold sendE; rw [if_pos hp, if_neg hl, if_pos hq]
        have hL : sendL L body = L := by unfold sendL; rw [hE, if_neg (by decide)]
        rw [hE, hL]
        refine (send_full h hok hB body Ab cb hC hp hl hq).mono ?_
        rintro e w' ⟨rfl, m, rfl⟩
        exact ⟨rfl, same m⟩
      · have hE : sendE L body.length = 0 := by unfold sendE; rw [if_pos hp, if_neg hl, if_neg hq]
        have hL : sendL L body = fill_ { L with queue := L.queue ++ [body] } := by unfold sendL; rw [hE, if_pos rfl]
        rw [hE, hL]
        exact send_ok h hok hB body Ab cb hC hp hl hq ho
  · have hE : sendE L body.length = 110 := by unfold sendE; rw [if_neg hp]
    have hL : sendL L body = L := by unfold sendL; rw [hE, if_neg (by decide)]
    rw [hE, hL]
    refine (send_shut h hok hB body Ab cb hC hp).mono ?_
    rintro e w' ⟨rfl, rfl⟩
    exact ⟨rfl, Turns.same ⟨okq, oko, q, o, h, ho⟩⟩
end Go.Proofs.Ytnkkgofpifhoeaa.Lk
