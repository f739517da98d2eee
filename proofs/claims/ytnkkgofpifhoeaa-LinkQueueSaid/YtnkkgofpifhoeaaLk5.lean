/- data: the i-th signal of the queue. -/
import Derived.Test.YtnkkgofpifhoeaaLk4
namespace Go.Proofs.Ytnkkgofpifhoeaa.Lk
open Go.RowKit Go.Proofs.Ytnkkgofpifhoeaa.Base Go.Proofs.Ytnkkgofpifhoeaa.Steps Go.Proofs.YtnkkgofpifhoeaaW.PrintWords Go.Proofs.YtnkkgofpifhoeaaW.PrintLast
set_option linter.unusedSimpArgs false
set_option linter.unusedVariables false
theorem info5' : (Try.prog.info? 5).map (fun i => (i.zero, i.size, i.bytes)) = some (some (.int .u8 0), 1, 1) := by kernel_rfl
theorem Emits.from2 {w w2 w' : World} {B g : Nat} {okq oko : Nat → Prop} {L : Lk} {q : Value} (hq : ∀ k, okq k → k < w.heap.size) (hg : g < w.heap.size) (hb : Below w.heap.size w w2) (hB : B ≤ w.heap.size) (h : Emits w2 B okq (fun k => oko k ∨ w.heap.size ≤ k ∧ k < w2.heap.size) g L q w') : Emits w B okq oko g L q w' := by
  obtain ⟨o, h1, h2, h3⟩ := h
  have hs := hb.size
  have hs2 := h2.1
  refine ⟨o, ⟨h1.blk, h1.queue, Kd.R_mono h1.out (fun k hk => ?_), h1.low, fun k hk ho => ?_, fun k hk => ?_⟩, (Kept.of_below hb _).then_ h2 (fun k hk => ?_), (hb.mono hB).trans h3⟩
  · rcases hk with (hk | hk) | hk
    · exact .inl hk
    · exact .inr ⟨hk.1, by omega⟩
    · exact .inr ⟨by omega, hk.2⟩
  · rcases ho with ho | ho
    · exact h1.apart k hk (.inl (.inl ho))
    · have := hq k hk; omega
  · rcases hk with hk | hk | hk
    · exact h1.old k (.inl hk)
    · exact h1.old k (.inr (.inl (.inl hk)))
    · exact ⟨hk.2, by omega⟩
  · rcases hk with (hk | hk) | hk
    · exact .inl (.inl hk)
    · exact .inr hk.1
    · exact .inl (.inr hk)
def dataP (L : Lk) (i : Int) : Pkt := ⟨2, L.token, L.boot, L.yours, IntKind.u32.wrap (L.base + IntKind.u32.wrap i), L.expected, 0, 0, 0, 0, L.queue.getD i.toNat []⟩
set_option maxRecDepth 100000 in
set_option maxHeartbeats 1000000 in
theorem data_of {w : World} {B g : Nat} {okq oko : Nat → Prop} {L : Lk} {q o : Value} (h : At w B okq oko g L q o) (hok : L.Ok) (hB : B ≤ w.heap.size) (i : Int) (hi0 : 0 ≤ i) (hi1 : i < L.queue.length) :
    Calls Try.prog 75 #[.pointer (some ⟨g, 0, none⟩), .int .i64 i] w fun e w' => e = .returned (.tuple #[]) ∧ Emits w B okq oko g (emit_ L (dataP L i)) q w' := by
  obtain ⟨gq, oq, cq, hq, _⟩ := Kd.Q_form h.queue (by omega)
  have hql := hok.queue
  have hQ := h.queue
  rw [hq] at hQ
  obtain ⟨ce, hce1, hce2, hce3, _⟩ := Kd.Q_elem hQ [] i hi0 hi1
  obtain ⟨vb, rfl, hRb⟩ := hce2
  have hcb : w.cell? ⟨gq, oq + i.toNat, none⟩ = some vb := by
    have := hce3 0 _ rfl
    rwa [show Kd.sz bytes = 1 from rfl, Nat.mul_one, Nat.add_zero] at this
  generalize hbd : L.queue.getD i.toNat [] = body at hRb
  have hbl : body.length ≤ 1000 := by
    subst hbd
    rw [List.getD_eq_getElem?_getD, List.getElem?_eq_getElem (by omega)]
    exact hok.rows _ (List.getElem_mem _)
  obtain ⟨Ab, cb, hvb, hlb, hCb⟩ := Kd.R_reads hRb
  subst hvb
  have hgl : g < w.heap.size := blk_lt h.blk
  have ht := hok.base
  have H0 := Lib.hid h
  have OK := Lib.hid hok
  have HCB := Lib.hid hCb
  have HBL := Lib.hid hbl
  have HBD := Lib.hid hbd
  have HQ := Lib.hid hq
  have hin : i ≤ 63 := by omega
  have HQL := Lib.hid hql
  clear h hok hQ hCb hRb hlb hbl hbd hce1 hce3 hq hql
  generalize hnl : L.queue.length = nl at hi1
  have HNL := Lib.hid hnl
  clear hnl
  go_enter Try.func75, Try.ntmps75
  have hSS : w.drew.heap[g]? = some (.cells (row L (.slice (some ⟨gq, oq, none⟩) nl cq) o) 131 (0, 0)) ∧ w.drew.cell? ⟨gq, oq + i.toNat, none⟩ = some (.slice Ab body.length cb) := ⟨H0.out.blk.trans (by rw [HQ.out, HNL.out]), hcb⟩
  have hbd : Below w.heap.size w w.drew := bl_drew (Below.refl _ _)
  have hsz : w.drew.heap.size = w.heap.size := rfl
  clear hcb
  refine start_ (n := 34) (S := fun w' => w'.heap[g]? = some (.cells (row L (.slice (some ⟨gq, oq, none⟩) nl cq) o) 131 (0, 0)) ∧ w'.cell? ⟨gq, oq + i.toNat, none⟩ = some (.slice Ab body.length cb)) (ds := [33]) #[false, false, false, false, false, false, false, false, false, false, false, false, false, false, false, false, false, false, false, false, false, false, false, false, false, false, false, false, false, false, false, false, false, false] (by kernel_rfl) rfl rfl (hSS) (fun hHeld => ?_)
  generalize w.drew = w2 at hbd hsz hHeld ⊢
  have HBW := Lib.hid hbd
  have HSZ := Lib.hid hsz
  clear hbd hsz
  refine pure_ (i := 0) (N := some 4) (v := ?_) (a' := ?_) #[true, false, false, false, false, false, false, false, false, false, false, false, false, false, false, false, false, false, false, false, false, false, false, false, false, false, false, false, false, false, false, false, false, false] rfl rfl (by kernel_rfl) (fun _ _ _ h => h) (Or.inl ⟨by rfl, ?_⟩) ?_ ?_
  rotate_left
  · intro w'
    go_simp
    with_reducible rfl
  rotate_left
  · simp only [Act.put, List.setIfInBounds_toArray, List.set_cons_zero, List.set_cons_succ]
    rfl
  refine pure_ (i := 1) (N := some 5) (v := ?_) (a' := ?_) #[true, true, false, false, false, false, false, false, false, false, false, false, false, false, false, false, false, false, false, false, false, false, false, false, false, false, false, false, false, false, false, false, false, false] rfl rfl (by kernel_rfl) (fun _ _ _ h => h) (Or.inl ⟨by rfl, ?_⟩) ?_ ?_
  rotate_left
  · intro w'
    go_simp
    with_reducible rfl
  rotate_left
  · simp only [Act.put, List.setIfInBounds_toArray, List.set_cons_zero, List.set_cons_succ]
    rfl
  refine pure_ (i := 2) (N := some 6) (v := ?_) (a' := ?_) #[true, true, true, false, false, false, false, false, false, false, false, false, false, false, false, false, false, false, false, false, false, false, false, false, false, false, false, false, false, false, false, false, false, false] rfl rfl (by kernel_rfl) (fun _ _ _ h => h) (Or.inl ⟨by rfl, ?_⟩) ?_ ?_
  rotate_left
  · intro w'
    go_simp
    with_reducible rfl
  rotate_left
  · simp only [Act.put, List.setIfInBounds_toArray, List.set_cons_zero, List.set_cons_succ]
    rfl
  refine pure_ (i := 3) (N := some 7) (v := ?_) (a' := ?_) #[true, true, true, true, false, false, false, false, false, false, false, false, false, false, false, false, false, false, false, false, false, false, false, false, false, false, false, false, false, false, false, false, false, false] rfl rfl (by kernel_rfl) (fun _ _ _ h => h) (Or.inl ⟨by rfl, ?_⟩) ?_ ?_
  rotate_left
  · intro w'
    go_simp
    with_reducible rfl
  rotate_left
  · simp only [Act.put, List.setIfInBounds_toArray, List.set_cons_zero, List.set_cons_succ]
    rfl
  refine take_ (i := 4) (N := some 8) (v := ?_) (a' := ?_) #[true, true, true, true, true, false, false, false, false, false, false, false, false, false, false, false, false, false, false, false, false, false, false, false, false, false, false, false, false, false, false, false, false, false] rfl rfl (by kernel_rfl) (fun _ _ _ h => h) (Or.inl ⟨by rfl, ?_⟩) hHeld ?_ ?_
  rotate_left
  · intro w' s0
    have hc2 : w'.cell? ⟨g, 2, none⟩ = some (.int .u32 L.token) := (blk_cell s0.1 2).trans rfl
    clear s0
    go_simp
    with_reducible rfl
  rotate_left
  · simp only [Act.put, List.setIfInBounds_toArray, List.set_cons_zero, List.set_cons_succ]
    rfl
  refine pure_ (i := 5) (N := some 9) (v := ?_) (a' := ?_) #[true, true, true, true, true, true, false, false, false, false, false, false, false, false, false, false, false, false, false, false, false, false, false, false, false, false, false, false, false, false, false, false, false, false] rfl rfl (by kernel_rfl) (fun _ _ _ h => h) (Or.inl ⟨by rfl, ?_⟩) ?_ ?_
  rotate_left
  · intro w'
    go_simp
    with_reducible rfl
  rotate_left
  · simp only [Act.put, List.setIfInBounds_toArray, List.set_cons_zero, List.set_cons_succ]
    rfl
  refine pure_ (i := 6) (N := some 10) (v := ?_) (a' := ?_) #[true, true, true, true, true, true, true, false, false, false, false, false, false, false, false, false, false, false, false, false, false, false, false, false, false, false, false, false, false, false, false, false, false, false] rfl rfl (by kernel_rfl) (fun _ _ _ h => h) (Or.inl ⟨by rfl, ?_⟩) ?_ ?_
  rotate_left
  · intro w'
    go_simp
    with_reducible rfl
  rotate_left
  · simp only [Act.put, List.setIfInBounds_toArray, List.set_cons_zero, List.set_cons_succ]
    rfl
  refine pure_ (i := 7) (N := some 11) (v := ?_) (a' := ?_) #[true, true, true, true, true, true, true, true, false, false, false, false, false, false, false, false, false, false, false, false, false, false, false, false, false, false, false, false, false, false, false, false, false, false] rfl rfl (by kernel_rfl) (fun _ _ _ h => h) (Or.inl ⟨by rfl, ?_⟩) ?_ ?_
  rotate_left
  · intro w'
    go_simp
    with_reducible rfl
  rotate_left
  · simp only [Act.put, List.setIfInBounds_toArray, List.set_cons_zero, List.set_cons_succ]
    rfl
  refine take_ (i := 8) (N := some 12) (v := ?_) (a' := ?_) #[true, true, true, true, true, true, true, true, true, false, false, false, false, false, false, false, false, false, false, false, false, false, false, false, false, false, false, false, false, false, false, false, false, false] rfl rfl (by kernel_rfl) (fun _ _ _ h => h) (Or.inl ⟨by rfl, ?_⟩) hHeld ?_ ?_
  rotate_left
  · intro w' s0
    have hc3 : w'.cell? ⟨g, 3, none⟩ = some (.int .u32 L.boot) := (blk_cell s0.1 3).trans rfl
    clear s0
    go_simp
    with_reducible rfl
  rotate_left
  · simp only [Act.put, List.setIfInBounds_toArray, List.set_cons_zero, List.set_cons_succ]
    rfl
  refine pure_ (i := 9) (N := some 13) (v := ?_) (a' := ?_) #[true, true, true, true, true, true, true, true, true, true, false, false, false, false, false, false, false, false, false, false, false, false, false, false, false, false, false, false, false, false, false, false, false, false] rfl rfl (by kernel_rfl) (fun _ _ _ h => h) (Or.inl ⟨by rfl, ?_⟩) ?_ ?_
  rotate_left
  · intro w'
    go_simp
    with_reducible rfl
  rotate_left
  · simp only [Act.put, List.setIfInBounds_toArray, List.set_cons_zero, List.set_cons_succ]
    rfl
  refine pure_ (i := 10) (N := some 14) (v := ?_) (a' := ?_) #[true, true, true, true, true, true, true, true, true, true, true, false, false, false, false, false, false, false, false, false, false, false, false, false, false, false, false, false, false, false, false, false, false, false] rfl rfl (by kernel_rfl) (fun _ _ _ h => h) (Or.inl ⟨by rfl, ?_⟩) ?_ ?_
  rotate_left
  · intro w'
    go_simp
    with_reducible rfl
  rotate_left
  · simp only [Act.put, List.setIfInBounds_toArray, List.set_cons_zero, List.set_cons_succ]
    rfl
  refine pure_ (i := 11) (N := some 15) (v := ?_) (a' := ?_) #[true, true, true, true, true, true, true, true, true, true, true, true, false, false, false, false, false, false, false, false, false, false, false, false, false, false, false, false, false, false, false, false, false, false] rfl rfl (by kernel_rfl) (fun _ _ _ h => h) (Or.inl ⟨by rfl, ?_⟩) ?_ ?_
  rotate_left
  · intro w'
    go_simp
    with_reducible rfl
  rotate_left
  · simp only [Act.put, List.setIfInBounds_toArray, List.set_cons_zero, List.set_cons_succ]
    rfl
  refine take_ (i := 12) (N := some 16) (v := ?_) (a' := ?_) #[true, true, true, true, true, true, true, true, true, true, true, true, true, false, false, false, false, false, false, false, false, false, false, false, false, false, false, false, false, false, false, false, false, false] rfl rfl (by kernel_rfl) (fun _ _ _ h => h) (Or.inl ⟨by rfl, ?_⟩) hHeld ?_ ?_
  rotate_left
  · intro w' s0
    have hc4 : w'.cell? ⟨g, 4, none⟩ = some (.int .u32 L.yours) := (blk_cell s0.1 4).trans rfl
    clear s0
    go_simp
    with_reducible rfl
  rotate_left
  · simp only [Act.put, List.setIfInBounds_toArray, List.set_cons_zero, List.set_cons_succ]
    rfl
  refine pure_ (i := 13) (N := some 17) (v := ?_) (a' := ?_) #[true, true, true, true, true, true, true, true, true, true, true, true, true, true, false, false, false, false, false, false, false, false, false, false, false, false, false, false, false, false, false, false, false, false] rfl rfl (by kernel_rfl) (fun _ _ _ h => h) (Or.inl ⟨by rfl, ?_⟩) ?_ ?_
  rotate_left
  · intro w'
    go_simp
    with_reducible rfl
  rotate_left
  · simp only [Act.put, List.setIfInBounds_toArray, List.set_cons_zero, List.set_cons_succ]
    rfl
  refine pure_ (i := 14) (N := some 18) (v := ?_) (a' := ?_) #[true, true, true, true, true, true, true, true, true, true, true, true, true, true, true, false, false, false, false, false, false, false, false, false, false, false, false, false, false, false, false, false, false, false] rfl rfl (by kernel_rfl) (fun _ _ _ h => h) (Or.inl ⟨by rfl, ?_⟩) ?_ ?_
  rotate_left
  · intro w'
    go_simp
    with_reducible rfl
  rotate_left
  · simp only [Act.put, List.setIfInBounds_toArray, List.set_cons_zero, List.set_cons_succ]
    rfl
  refine pure_ (i := 15) (N := some 19) (v := ?_) (a' := ?_) #[true, true, true, true, true, true, true, true, true, true, true, true, true, true, true, true, false, false, false, false, false, false, false, false, false, false, false, false, false, false, false, false, false, false] rfl rfl (by kernel_rfl) (fun _ _ _ h => h) (Or.inl ⟨by rfl, ?_⟩) ?_ ?_
  rotate_left
  · intro w'
    go_simp
    with_reducible rfl
  rotate_left
  · simp only [Act.put, List.setIfInBounds_toArray, List.set_cons_zero, List.set_cons_succ]
    rfl
  refine take_ (i := 16) (N := some 20) (v := ?_) (a' := ?_) #[true, true, true, true, true, true, true, true, true, true, true, true, true, true, true, true, true, false, false, false, false, false, false, false, false, false, false, false, false, false, false, false, false, false] rfl rfl (by kernel_rfl) (fun _ _ _ h => h) (Or.inl ⟨by rfl, ?_⟩) hHeld ?_ ?_
  rotate_left
  · intro w' s0
    have hc8 : w'.cell? ⟨g, 8, none⟩ = some (.int .u32 L.base) := (blk_cell s0.1 8).trans rfl
    clear s0
    go_simp
    with_reducible rfl
  rotate_left
  · simp only [Act.put, List.setIfInBounds_toArray, List.set_cons_zero, List.set_cons_succ]
    rfl
  refine pure_ (i := 17) (N := some 21) (v := ?_) (a' := ?_) #[true, true, true, true, true, true, true, true, true, true, true, true, true, true, true, true, true, true, false, false, false, false, false, false, false, false, false, false, false, false, false, false, false, false] rfl rfl (by kernel_rfl) (fun _ _ _ h => h) (Or.inl ⟨by rfl, ?_⟩) ?_ ?_
  rotate_left
  · intro w'
    go_simp
    with_reducible rfl
  rotate_left
  · simp only [Act.put, List.setIfInBounds_toArray, List.set_cons_zero, List.set_cons_succ]
    rfl
  refine pure_ (i := 18) (N := some 22) (v := ?_) (a' := ?_) #[true, true, true, true, true, true, true, true, true, true, true, true, true, true, true, true, true, true, true, false, false, false, false, false, false, false, false, false, false, false, false, false, false, false] rfl rfl (by kernel_rfl) (fun _ _ _ h => h) (Or.inl ⟨by rfl, ?_⟩) ?_ ?_
  rotate_left
  · intro w'
    go_simp
    rfl
  rotate_left
  · simp only [Act.put, List.setIfInBounds_toArray, List.set_cons_zero, List.set_cons_succ]
    rfl
  refine pure_ (i := 19) (N := some 23) (v := ?_) (a' := ?_) #[true, true, true, true, true, true, true, true, true, true, true, true, true, true, true, true, true, true, true, true, false, false, false, false, false, false, false, false, false, false, false, false, false, false] rfl rfl (by kernel_rfl) (fun _ _ _ h => h) (Or.inl ⟨by rfl, ?_⟩) ?_ ?_
  rotate_left
  · intro w'
    go_simp
    rfl
  rotate_left
  · simp only [Act.put, List.setIfInBounds_toArray, List.set_cons_zero, List.set_cons_succ]
    rfl
  refine pure_ (i := 20) (N := some 24) (v := ?_) (a' := ?_) #[true, true, true, true, true, true, true, true, true, true, true, true, true, true, true, true, true, true, true, true, true, false, false, false, false, false, false, false, false, false, false, false, false, false] rfl rfl (by kernel_rfl) (fun _ _ _ h => h) (Or.inl ⟨by rfl, ?_⟩) ?_ ?_
  rotate_left
  · intro w'
    go_simp
    with_reducible rfl
  rotate_left
  · simp only [Act.put, List.setIfInBounds_toArray, List.set_cons_zero, List.set_cons_succ]
    rfl
  refine pure_ (i := 21) (N := some 25) (v := ?_) (a' := ?_) #[true, true, true, true, true, true, true, true, true, true, true, true, true, true, true, true, true, true, true, true, true, true, false, false, false, false, false, false, false, false, false, false, false, false] rfl rfl (by kernel_rfl) (fun _ _ _ h => h) (Or.inl ⟨by rfl, ?_⟩) ?_ ?_
  rotate_left
  · intro w'
    go_simp
    with_reducible rfl
  rotate_left
  · simp only [Act.put, List.setIfInBounds_toArray, List.set_cons_zero, List.set_cons_succ]
    rfl
  refine pure_ (i := 22) (N := some 26) (v := ?_) (a' := ?_) #[true, true, true, true, true, true, true, true, true, true, true, true, true, true, true, true, true, true, true, true, true, true, true, false, false, false, false, false, false, false, false, false, false, false] rfl rfl (by kernel_rfl) (fun _ _ _ h => h) (Or.inl ⟨by rfl, ?_⟩) ?_ ?_
  rotate_left
  · intro w'
    go_simp
    with_reducible rfl
  rotate_left
  · simp only [Act.put, List.setIfInBounds_toArray, List.set_cons_zero, List.set_cons_succ]
    rfl
  refine take_ (i := 23) (N := some 27) (v := ?_) (a' := ?_) #[true, true, true, true, true, true, true, true, true, true, true, true, true, true, true, true, true, true, true, true, true, true, true, true, false, false, false, false, false, false, false, false, false, false] rfl rfl (by kernel_rfl) (fun _ _ _ h => h) (Or.inl ⟨by rfl, ?_⟩) hHeld ?_ ?_
  rotate_left
  · intro w' s0
    have hc9 : w'.cell? ⟨g, 9, none⟩ = some (.int .u32 L.expected) := (blk_cell s0.1 9).trans rfl
    clear s0
    go_simp
    with_reducible rfl
  rotate_left
  · simp only [Act.put, List.setIfInBounds_toArray, List.set_cons_zero, List.set_cons_succ]
    rfl
  refine pure_ (i := 24) (N := some 28) (v := ?_) (a' := ?_) #[true, true, true, true, true, true, true, true, true, true, true, true, true, true, true, true, true, true, true, true, true, true, true, true, true, false, false, false, false, false, false, false, false, false] rfl rfl (by kernel_rfl) (fun _ _ _ h => h) (Or.inl ⟨by rfl, ?_⟩) ?_ ?_
  rotate_left
  · intro w'
    go_simp
    with_reducible rfl
  rotate_left
  · simp only [Act.put, List.setIfInBounds_toArray, List.set_cons_zero, List.set_cons_succ]
    rfl
  refine pure_ (i := 25) (N := some 29) (v := ?_) (a' := ?_) #[true, true, true, true, true, true, true, true, true, true, true, true, true, true, true, true, true, true, true, true, true, true, true, true, true, true, false, false, false, false, false, false, false, false] rfl rfl (by kernel_rfl) (fun _ _ _ h => h) (Or.inl ⟨by rfl, ?_⟩) ?_ ?_
  rotate_left
  · intro w'
    go_simp
    with_reducible rfl
  rotate_left
  · simp only [Act.put, List.setIfInBounds_toArray, List.set_cons_zero, List.set_cons_succ]
    rfl
  refine pure_ (i := 26) (N := some 30) (v := ?_) (a' := ?_) #[true, true, true, true, true, true, true, true, true, true, true, true, true, true, true, true, true, true, true, true, true, true, true, true, true, true, true, false, false, false, false, false, false, false] rfl rfl (by kernel_rfl) (fun _ _ _ h => h) (Or.inl ⟨by rfl, ?_⟩) ?_ ?_
  rotate_left
  · intro w'
    go_simp
    with_reducible rfl
  rotate_left
  · simp only [Act.put, List.setIfInBounds_toArray, List.set_cons_zero, List.set_cons_succ]
    rfl
  refine take_ (i := 27) (N := some 31) (v := ?_) (a' := ?_) #[true, true, true, true, true, true, true, true, true, true, true, true, true, true, true, true, true, true, true, true, true, true, true, true, true, true, true, true, false, false, false, false, false, false] rfl rfl (by kernel_rfl) (fun _ _ _ h => h) (Or.inl ⟨by rfl, ?_⟩) hHeld ?_ ?_
  rotate_left
  · intro w' s0
    have hc6 : w'.cell? ⟨g, 6, none⟩ = some (.slice (some ⟨gq, oq, none⟩) nl cq) := (blk_cell s0.1 6).trans rfl
    clear s0
    go_simp
    with_reducible rfl
  rotate_left
  · simp only [Act.put, List.setIfInBounds_toArray, List.set_cons_zero, List.set_cons_succ]
    rfl
  refine pure_ (i := 28) (N := some 32) (v := ?_) (a' := ?_) #[true, true, true, true, true, true, true, true, true, true, true, true, true, true, true, true, true, true, true, true, true, true, true, true, true, true, true, true, true, false, false, false, false, false] rfl rfl (by kernel_rfl) (fun _ _ _ h => h) (Or.inl ⟨by rfl, ?_⟩) ?_ ?_
  rotate_left
  · intro w'
    go_simp
    with_reducible rfl
  rotate_left
  · simp only [Act.put, List.setIfInBounds_toArray, List.set_cons_zero, List.set_cons_succ]
    rfl
  refine pure_ (i := 29) (N := some 33) (v := ?_) (a' := ?_) #[true, true, true, true, true, true, true, true, true, true, true, true, true, true, true, true, true, true, true, true, true, true, true, true, true, true, true, true, true, true, false, false, false, false] rfl rfl (by kernel_rfl) (fun _ _ _ h => h) (Or.inl ⟨by rfl, ?_⟩) ?_ ?_
  rotate_left
  · intro w'
    go_simp
    rfl
  rotate_left
  · simp only [Act.put, List.setIfInBounds_toArray, List.set_cons_zero, List.set_cons_succ]
    rfl
  refine take_ (i := 30) (N := some 34) (v := ?_) (a' := ?_) #[true, true, true, true, true, true, true, true, true, true, true, true, true, true, true, true, true, true, true, true, true, true, true, true, true, true, true, true, true, true, true, false, false, false] rfl rfl (by kernel_rfl) (fun _ _ _ h => h) (Or.inl ⟨by rfl, ?_⟩) hHeld ?_ ?_
  rotate_left
  · intro w' s0
    have hcb := s0.2
    clear s0
    go_simp
    rfl
  rotate_left
  · simp only [Act.put, List.setIfInBounds_toArray, List.set_cons_zero, List.set_cons_succ]
    rfl
  refine one_ (i := 31) (N := some 35) #[true, true, true, true, true, true, true, true, true, true, true, true, true, true, true, true, true, true, true, true, true, true, true, true, true, true, true, true, true, true, true, true, false, false] rfl rfl (by kernel_rfl) (by decide) (fun K hK => ?_)
  refine Kd.R_append_rows_step (Kd.int .u8) (Rr := fun x cs => cs = [Value.int .u8 x]) (w0 := w) B (by rfl) (.const (.slice none 0 0)) (.tmp 34) 22 5 (.int .u8 0) 1 rfl Try.underlying22 info5' rfl (by decide) (by decide) (.slice none 0 0) [] body Ab body.length cb (fun k => w2.heap.size ≤ k) (fun _ => False) rfl rfl (Kd.R_nil _ _ _ _ _) (Kd.C_below HCB.out HBW.out) (fun _ _ hx => hx) (fun _ hf => hf.elim) (fun k hk => hk) (HBW.out.mono hB) (by have := HSZ.out; omega) (by have := HBL.out; simp; omega) ?_
  intro v1 w3 hR hbl hg _
  obtain ⟨A1, c1, hv1⟩ := Kd.R_slice hR
  subst hv1
  have hbg : Below w2.heap.size w2 w3 := ⟨hg.os, hg.tape, hg.output, hg.size, fun k hk => hg.block k hk (by simp [Value.ownBlock])⟩
  have hb3 : Below w.heap.size w w3 := HBW.out.trans (hbg.mono HBW.out.size)
  have HB3 := Lib.hid hb3
  have HR3 := Lib.hid (show (Kd.int .u8).R 5 w3 B (fun k => w2.heap.size ≤ k) _ body from hR)
  have hS3 := (⟨(hbg.block g (blk_lt hHeld.1)).trans hHeld.1, Kd.cell_heap hbg.block hHeld.2⟩ : w3.heap[g]? = some (.cells (row L (.slice (some ⟨gq, oq, none⟩) nl cq) o) 131 (0, 0)) ∧ w3.cell? ⟨gq, oq + i.toNat, none⟩ = some (.slice Ab body.length cb))
  clear hR hbl hg hbg hb3 hHeld
  refine hK.out _ _ hS3 (fun hHeld => ?_)
  clear hK K hS3
  refine norm_ (a' := ?_) ?_ ?_
  rotate_left
  · show Act.put _ (some 35) _ = _
    simp only [Act.put, List.setIfInBounds_toArray, List.set_cons_zero, List.set_cons_succ]
    rfl
  have h3 := H0.out.below HB3.out
  have h3' : At w3 B okq (fun k => oko k ∨ w.heap.size ≤ k ∧ k < w3.heap.size) g L q o := ⟨h3.blk, h3.queue, Kd.R_mono h3.out (fun _ hk => .inl hk), h3.low, fun k hk ho => ho.elim (h3.apart k hk) (fun hn => by have := (H0.out.old k (.inl hk)).1; omega), fun k hk => (hk.elim (fun x => h3.old k (.inl x)) (fun x => x.elim (fun y => h3.old k (.inr y)) (fun hn => ⟨hn.2, by omega⟩)))⟩
  have hRb : (Kd.int .u8).R 5 w3 B (fun k => w2.heap.size ≤ k ∧ k < w3.heap.size) (.slice A1 ([] ++ body).length c1) body := Kd.R_mono (Kd.R_bound HR3.out) (fun k hk => ⟨hk.1, hk.2.2.1⟩)
  have hM9 : pkt.M w3 B (fun k => w2.heap.size ≤ k ∧ k < w3.heap.size) (⟨2, L.token, L.boot, L.yours, IntKind.u32.wrap (L.base + IntKind.u32.wrap i), L.expected, 0, 0, 0, 0, body⟩ : Pkt) (cells (⟨2, L.token, L.boot, L.yours, IntKind.u32.wrap (L.base + IntKind.u32.wrap i), L.expected, 0, 0, 0, 0, body⟩ : Pkt) (.slice A1 ([] ++ body).length c1)) := pkt_M.2 ⟨_, rfl, hRb⟩
  have hop : ∀ k, (w2.heap.size ≤ k ∧ k < w3.heap.size) → (oko k ∨ w.heap.size ≤ k ∧ k < w3.heap.size) := fun k hk => .inr ⟨HSZ.out ▸ hk.1, hk.2⟩
  have HC9 := Lib.hid (emit_of (⟨2, L.token, L.boot, L.yours, IntKind.u32.wrap (L.base + IntKind.u32.wrap i), L.expected, 0, 0, 0, 0, body⟩ : Pkt) (.slice A1 ([] ++ body).length c1) h3' OK.out (Nat.le_trans hB HB3.out.size) hM9 hop)
  clear h3 h3' hRb hM9 hop
  refine pure_ (i := 32) (N := some 36) (v := ?_) (a' := ?_) #[true, true, true, true, true, true, true, true, true, true, true, true, true, true, true, true, true, true, true, true, true, true, true, true, true, true, true, true, true, true, true, true, true, false] rfl rfl (by kernel_rfl) (fun _ _ _ h => h) (Or.inl ⟨by rfl, ?_⟩) ?_ ?_
  rotate_left
  · intro w'
    have hu27 := Try.underlying27
    go_simp
    rfl
  rotate_left
  · simp only [Act.put, List.setIfInBounds_toArray, List.set_cons_zero, List.set_cons_succ]
    rfl
  refine last_ (i := 33) (N := some 37) #[true, true, true, true, true, true, true, true, true, true, true, true, true, true, true, true, true, true, true, true, true, true, true, true, true, true, true, true, true, true, true, true, true, true] rfl rfl (by kernel_rfl) (by decide) (fun K hK => ?_)
  refine goes_ Try.func80 (by kernel_rfl) rfl #[.pointer (some ⟨g, 0, none⟩), .agg #[.int .i64 2, .int .u32 L.token, .int .u32 L.boot, .int .u32 L.yours, .int .u32 (IntKind.u32.wrap (L.base + IntKind.u32.wrap i)), .int .u32 L.expected, .int .u32 0, .int .u32 0, .complex .f64 0 0, .slice A1 ([] ++ body).length c1]] (by rfl) rfl rfl (by (try simp only [List.map_toArray, List.map_cons, List.map_nil]); first | done | rfl) ?_
  refine HC9.out.mono ?_
  rintro e w9 ⟨rfl, hE⟩
  have HE := Lib.hid (Emits.from2 (fun k hk => (H0.out.old k (.inl hk)).1) hgl HB3.out hB hE)
  clear hE
  refine ⟨_, rfl, ?_⟩
  refine hK.out _ _ ?_
  clear hK K
  refine done_ (by kernel_rfl) ?_
  go_wp2
  go_end0
  have hP : dataP L i = (⟨2, L.token, L.boot, L.yours, IntKind.u32.wrap (L.base + IntKind.u32.wrap i), L.expected, 0, 0, 0, 0, body⟩ : Pkt) := by unfold dataP; rw [HBD.out]
  rw [hP]
  exact ⟨rfl, HE.out⟩
end Go.Proofs.Ytnkkgofpifhoeaa.Lk
