/- emit: a packet waits to be fetched. -/
import Derived.Test.YtnkkgofpifhoeaaLk1
namespace Go.Proofs.Ytnkkgofpifhoeaa.Lk
open Go.RowKit Go.Proofs.Ytnkkgofpifhoeaa.Base Go.Proofs.Ytnkkgofpifhoeaa.Steps Go.Proofs.YtnkkgofpifhoeaaW.PrintWords Go.Proofs.YtnkkgofpifhoeaaW.PrintLast
set_option linter.unusedSimpArgs false
set_option linter.unusedVariables false
def emit_ (L : Lk) (p : Pkt) : Lk := if L.out.length < 1024 then { L with out := L.out ++ [p] } else L
theorem emit_ok {L : Lk} (h : L.Ok) (p : Pkt) : (emit_ L p).Ok := by
  unfold emit_
  split
  · exact ⟨h.own, h.phase, h.token, h.boot, h.yours, h.queue, h.rows, h.sent, h.base, h.expected, h.idle, by simp; omega⟩
  · exact h
/-- Behind a method that leaves the queue alone. -/
def Emits (w : World) (B : Nat) (okq oko : Nat → Prop) (g : Nat) (L : Lk) (q : Value) (w' : World) : Prop :=
  ∃ o, At w' B okq (fun k => oko k ∨ w.heap.size ≤ k ∧ k < w'.heap.size) g L q o ∧ Kept w w' (fun k => oko k ∨ k = g) ∧ Below B w w'
theorem info27 : (Try.prog.info? 27).map (fun i => (i.zero, i.size, i.bytes)) = some (some (.agg #[.int .i64 0, .int .u32 0, .int .u32 0, .int .u32 0, .int .u32 0, .int .u32 0, .int .u32 0, .int .u32 0, .complex .f64 0 0, .slice none 0 0]), 10, 80) := by kernel_rfl
theorem pkt_free {w : World} {B : Nat} {okp ok : Nat → Prop} {p : Pkt} {cs : List Value} {o : Value} {ps : List Pkt} (hM : pkt.M w B okp p cs) (ho : pkt.R 27 w B ok o ps) : pkt.M w B (fun k => okp k ∧ some k ≠ o.ownBlock) p cs := by
  refine pkt.M_mono (fun k hk => ?_) (pkt.M_bound hM)
  obtain ⟨h1, _, _, t, ht, c, hc⟩ := hk
  refine ⟨h1, fun he => ?_⟩
  obtain ⟨_, inner, ho2, _⟩ := ho
  obtain ⟨c2, hc2⟩ := own_typed ho2 k he.symm
  rw [hc] at hc2
  injection hc2 with hc2
  injection hc2 with _ hc2 _
  subst hc2
  rw [pkt_E] at ht
  exact absurd ht (by decide)
theorem At.put' {w : World} {B g : Nat} {okq' oko' : Nat → Prop} {L' : Lk} {q' o' : Value} {cs : Array Value} (hb : w.heap[g]? = some (.cells cs 131 (0, 0))) (i : Nat) (u : Value) (e : cs.setIfInBounds i u = row L' q' o')
    (hq : bytes.Q 22 w B okq' q' L'.queue) (hout : pkt.R 27 w B oko' o' L'.out) (low : B ≤ g) (hap : ∀ k, okq' k → ¬ oko' k) (hold : ∀ k, okq' k ∨ oko' k → k < w.heap.size ∧ k ≠ g) : At (w.setCell ⟨g, i, none⟩ u) B okq' oko' g L' q' o' := by
  have hk : Kept w (w.setCell ⟨g, i, none⟩ u) (fun k => k = g) := Kept.setCell (S := fun k => k = g) (Kept.refl w _) (p := ⟨g, i, none⟩) (.inl rfl) u
  exact ⟨blk_put hb i u e, Kd.Q_kept hq hk (fun k ho => (hold k (.inl ho)).2), Kd.R_kept hout hk (fun k ho => (hold k (.inr ho)).2), low, hap, fun k hk' => ⟨Nat.lt_of_lt_of_le (hold k hk').1 hk.1, (hold k hk').2⟩⟩
set_option maxRecDepth 100000 in
set_option maxHeartbeats 1000000 in
theorem emit_of {w : World} {B g : Nat} {okq oko okp : Nat → Prop} {L : Lk} {q o : Value} (p : Pkt) (b : Value) (h : At w B okq oko g L q o) (hok : L.Ok) (hB : B ≤ w.heap.size) (hM : pkt.M w B okp p (cells p b)) (hokp : ∀ k, okp k → oko k) :
    Calls Try.prog 80 #[.pointer (some ⟨g, 0, none⟩), .agg #[.int .i64 p.kind, .int .u32 p.mine, .int .u32 p.boot, .int .u32 p.yours, .int .u32 p.seq, .int .u32 p.ack, .int .u32 p.stamp, .int .u32 p.echo, .complex .f64 p.zr p.zi, b]] w fun e w' => e = .returned (.tuple #[]) ∧ Emits w B okq oko g (emit_ L p) q w' := by
  obtain ⟨A, c, ho⟩ := Kd.R_slice h.out
  subst ho
  have hol := hok.out
  have hb0 : Below w.heap.size w (w.alloc (.cells #[.int .i64 p.kind, .int .u32 p.mine, .int .u32 p.boot, .int .u32 p.yours, .int .u32 p.seq, .int .u32 p.ack, .int .u32 p.stamp, .int .u32 p.echo, .complex .f64 p.zr p.zi, b] 27)) := (Below.refl _ _).alloc (Nat.le_refl _) _
  have H1 := Lib.hid (h.below hb0)
  have H0 := Lib.hid h
  have HM := Lib.hid (pkt_free hM h.out)
  have HP := Lib.hid hokp
  have hc11 : (w.alloc (.cells #[.int .i64 p.kind, .int .u32 p.mine, .int .u32 p.boot, .int .u32 p.yours, .int .u32 p.seq, .int .u32 p.ack, .int .u32 p.stamp, .int .u32 p.echo, .complex .f64 p.zr p.zi, b] 27)).cell? ⟨g, 11, none⟩ = some (.slice A L.out.length c) := (blk_cell H1.out.blk 11).trans rfl
  have hcb := heap_alloc_new w (.cells #[.int .i64 p.kind, .int .u32 p.mine, .int .u32 p.boot, .int .u32 p.yours, .int .u32 p.seq, .int .u32 p.ack, .int .u32 p.stamp, .int .u32 p.echo, .complex .f64 p.zr p.zi, b] 27)
  have HB0 := Lib.hid hb0
  have HCB := Lib.hid hcb
  clear h hb0 hM hokp hok hcb
  go_enter Try.func80, Try.ntmps80
  go_wp2_with fail
  rotate_left
  · go_end0
    have hL : emit_ L p = L := by unfold emit_; rw [if_neg (by omega)]
    rw [hL]
    refine ⟨rfl, .slice A L.out.length c, ⟨H1.out.blk, H1.out.queue, Kd.R_mono H1.out.out (fun _ hk => .inl hk), H1.out.low, fun k hk ho => ho.elim (H1.out.apart k hk) (fun hn => by have := (H0.out.old k (.inl hk)).1; omega), fun k hk => ?_⟩, Kept.of_below HB0.out _, HB0.out.mono hB⟩
    have hgl : g < w.heap.size := blk_lt H0.out.blk
    rcases hk with hk | hk | hk
    · exact H1.out.old k (.inl hk)
    · exact H1.out.old k (.inr hk)
    · exact ⟨hk.2, by omega⟩
  have hL : emit_ L p = { L with out := L.out ++ [p] } := by unfold emit_; rw [if_pos (by omega)]
  have hbd : Below w.heap.size w (w.alloc (.cells #[.int .i64 p.kind, .int .u32 p.mine, .int .u32 p.boot, .int .u32 p.yours, .int .u32 p.seq, .int .u32 p.ack, .int .u32 p.stamp, .int .u32 p.echo, .complex .f64 p.zr p.zi, b] 27)).drew := bl_drew HB0.out
  have hSS : (w.alloc (.cells #[.int .i64 p.kind, .int .u32 p.mine, .int .u32 p.boot, .int .u32 p.yours, .int .u32 p.seq, .int .u32 p.ack, .int .u32 p.stamp, .int .u32 p.echo, .complex .f64 p.zr p.zi, b] 27)).drew.heap[g]? = some (.cells (row L q (.slice A L.out.length c)) 131 (0, 0)) ∧ (w.alloc (.cells #[.int .i64 p.kind, .int .u32 p.mine, .int .u32 p.boot, .int .u32 p.yours, .int .u32 p.seq, .int .u32 p.ack, .int .u32 p.stamp, .int .u32 p.echo, .complex .f64 p.zr p.zi, b] 27)).drew.heap[w.heap.size]? = some (.cells #[.int .i64 p.kind, .int .u32 p.mine, .int .u32 p.boot, .int .u32 p.yours, .int .u32 p.seq, .int .u32 p.ack, .int .u32 p.stamp, .int .u32 p.echo, .complex .f64 p.zr p.zi, b] 27 (0, 0)) := ⟨H1.out.blk, HCB.out⟩
  have hsz0 : (w.alloc (.cells #[.int .i64 p.kind, .int .u32 p.mine, .int .u32 p.boot, .int .u32 p.yours, .int .u32 p.seq, .int .u32 p.ack, .int .u32 p.stamp, .int .u32 p.echo, .complex .f64 p.zr p.zi, b] 27)).drew.heap.size = w.heap.size + 1 := by simp [World.drew]
  clear H1 HB0 HCB hc11
  refine start_ (n := 11) (S := fun w' => w'.heap[g]? = some (.cells (row L q (.slice A L.out.length c)) 131 (0, 0)) ∧ w'.heap[w.heap.size]? = some (.cells #[.int .i64 p.kind, .int .u32 p.mine, .int .u32 p.boot, .int .u32 p.yours, .int .u32 p.seq, .int .u32 p.ack, .int .u32 p.stamp, .int .u32 p.echo, .complex .f64 p.zr p.zi, b] 27 (0, 0))) (ds := [10]) #[false, false, false, false, false, false, false, false, false, false, false] (by kernel_rfl) rfl rfl (hSS) (fun hHeld => ?_)
  generalize (w.alloc (.cells #[.int .i64 p.kind, .int .u32 p.mine, .int .u32 p.boot, .int .u32 p.yours, .int .u32 p.seq, .int .u32 p.ack, .int .u32 p.stamp, .int .u32 p.echo, .complex .f64 p.zr p.zi, b] 27)).drew = w2 at hbd hsz0 hHeld ⊢
  have HBD := Lib.hid hbd
  have HSZ := Lib.hid hsz0
  clear hbd hsz0
  refine pure_ (i := 0) (N := some 10) (v := ?_) (a' := ?_) #[true, false, false, false, false, false, false, false, false, false, false] rfl rfl (by kernel_rfl) (fun _ _ _ h => h) (Or.inl ⟨by rfl, ?_⟩) ?_ ?_
  rotate_left
  · intro w'
    go_simp
    with_reducible rfl
  rotate_left
  · simp only [Act.put, List.setIfInBounds_toArray, List.set_cons_zero, List.set_cons_succ]
    rfl
  refine pure_ (i := 1) (N := some 11) (v := ?_) (a' := ?_) #[true, true, false, false, false, false, false, false, false, false, false] rfl rfl (by kernel_rfl) (fun _ _ _ h => h) (Or.inl ⟨by rfl, ?_⟩) ?_ ?_
  rotate_left
  · intro w'
    go_simp
    with_reducible rfl
  rotate_left
  · simp only [Act.put, List.setIfInBounds_toArray, List.set_cons_zero, List.set_cons_succ]
    rfl
  refine pure_ (i := 2) (N := some 12) (v := ?_) (a' := ?_) #[true, true, true, false, false, false, false, false, false, false, false] rfl rfl (by kernel_rfl) (fun _ _ _ h => h) (Or.inl ⟨by rfl, ?_⟩) ?_ ?_
  rotate_left
  · intro w'
    go_simp
    with_reducible rfl
  rotate_left
  · simp only [Act.put, List.setIfInBounds_toArray, List.set_cons_zero, List.set_cons_succ]
    rfl
  refine pure_ (i := 3) (N := some 13) (v := ?_) (a' := ?_) #[true, true, true, true, false, false, false, false, false, false, false] rfl rfl (by kernel_rfl) (fun _ _ _ h => h) (Or.inl ⟨by rfl, ?_⟩) ?_ ?_
  rotate_left
  · intro w'
    go_simp
    with_reducible rfl
  rotate_left
  · simp only [Act.put, List.setIfInBounds_toArray, List.set_cons_zero, List.set_cons_succ]
    rfl
  refine take_ (i := 4) (N := some 14) (v := ?_) (a' := ?_) #[true, true, true, true, true, false, false, false, false, false, false] rfl rfl (by kernel_rfl) (fun _ _ _ h => h) (Or.inl ⟨by rfl, ?_⟩) hHeld ?_ ?_
  rotate_left
  · intro w' s0
    have hc11 : w'.cell? ⟨g, 11, none⟩ = some (.slice A L.out.length c) := (blk_cell s0.1 11).trans rfl
    clear s0
    go_simp
    with_reducible rfl
  rotate_left
  · simp only [Act.put, List.setIfInBounds_toArray, List.set_cons_zero, List.set_cons_succ]
    rfl
  refine take_ (i := 5) (N := some 15) (v := ?_) (a' := ?_) #[true, true, true, true, true, true, false, false, false, false, false] rfl rfl (by kernel_rfl) (fun _ _ _ h => h) (Or.inl ⟨by rfl, ?_⟩) hHeld ?_ ?_
  rotate_left
  · intro w' s0
    have hu27 := Try.underlying27
    have hc0 : w'.cell? ⟨w.heap.size, 0, none⟩ = some (.int .i64 p.kind) := (blk_cell s0.2 0).trans rfl
    have hc1 : w'.cell? ⟨w.heap.size, 1, none⟩ = some (.int .u32 p.mine) := (blk_cell s0.2 1).trans rfl
    have hc2 : w'.cell? ⟨w.heap.size, 2, none⟩ = some (.int .u32 p.boot) := (blk_cell s0.2 2).trans rfl
    have hc3 : w'.cell? ⟨w.heap.size, 3, none⟩ = some (.int .u32 p.yours) := (blk_cell s0.2 3).trans rfl
    have hc4 : w'.cell? ⟨w.heap.size, 4, none⟩ = some (.int .u32 p.seq) := (blk_cell s0.2 4).trans rfl
    have hc5 : w'.cell? ⟨w.heap.size, 5, none⟩ = some (.int .u32 p.ack) := (blk_cell s0.2 5).trans rfl
    have hc6 : w'.cell? ⟨w.heap.size, 6, none⟩ = some (.int .u32 p.stamp) := (blk_cell s0.2 6).trans rfl
    have hc7 : w'.cell? ⟨w.heap.size, 7, none⟩ = some (.int .u32 p.echo) := (blk_cell s0.2 7).trans rfl
    have hc8 : w'.cell? ⟨w.heap.size, 8, none⟩ = some (.complex .f64 p.zr p.zi) := (blk_cell s0.2 8).trans rfl
    have hc9 : w'.cell? ⟨w.heap.size, 9, none⟩ = some (b) := (blk_cell s0.2 9).trans rfl
    clear s0
    go_simp
    try rfl
  rotate_left
  · simp only [Act.put, List.setIfInBounds_toArray, List.set_cons_zero, List.set_cons_succ]
    rfl
  refine one_ (i := 6) (N := some 16) #[true, true, true, true, true, true, true, false, false, false, false] rfl rfl (by kernel_rfl) (by decide) (fun K hK => ?_)
  refine value_ (v := .slice (some ⟨w2.heap.size, 0, none⟩) 1 1) (by rfl) rfl (w1 := w2.alloc (.cells #[.int .i64 p.kind, .int .u32 p.mine, .int .u32 p.boot, .int .u32 p.yours, .int .u32 p.seq, .int .u32 p.ack, .int .u32 p.stamp, .int .u32 p.echo, .complex .f64 p.zr p.zi, b] 27)) ?_ ?_
  · first | (go_simp; done) | (go_simp; rfl)
  have hb2 := (Below.refl w2.heap.size w2).alloc (Nat.le_refl _) (.cells #[.int .i64 p.kind, .int .u32 p.mine, .int .u32 p.boot, .int .u32 p.yours, .int .u32 p.seq, .int .u32 p.ack, .int .u32 p.stamp, .int .u32 p.echo, .complex .f64 p.zr p.zi, b] 27)
  have HS2 := Lib.hid hHeld
  refine hK.out _ _ ⟨(hb2.block g (blk_lt hHeld.1)).trans hHeld.1, (hb2.block w.heap.size (blk_lt hHeld.2)).trans hHeld.2⟩ (fun hHeld => ?_)
  clear hK K
  refine norm_ (a' := ?_) ?_ ?_
  rotate_left
  · show Act.put _ (some 16) _ = _
    simp only [Act.put, List.setIfInBounds_toArray, List.set_cons_zero, List.set_cons_succ]
    rfl
  refine one_ (i := 7) (N := some 17) #[true, true, true, true, true, true, true, true, false, false, false] rfl rfl (by kernel_rfl) (by decide) (fun K hK => ?_)
  have hQ2 := H0.out.below HBD.out
  have hM2 := Kd.M_kept HM.out (Kept.of_below HBD.out (fun _ => False)) (fun _ _ hf => hf)
  refine Kd.R_append_step pkt (w0 := w) B (by rfl) (.tmp 14) (.tmp 16) 53 27 (.agg #[.int .i64 0, .int .u32 0, .int .u32 0, .int .u32 0, .int .u32 0, .int .u32 0, .int .u32 0, .int .u32 0, .complex .f64 0 0, .slice none 0 0]) 80 rfl Try.underlying53 info27 rfl (by decide) (by decide) _ _ p (cells p b) (fun k => oko k ∨ w.heap.size ≤ k) (fun k => okp k ∧ some k ≠ (Value.slice A L.out.length c).ownBlock) rfl rfl hM2 (fun k hk => ⟨.inl (HP.out k hk.1), hk.2⟩) (fun k hk => .inr (by have := HSZ.out; omega)) (Kd.R_mono hQ2.out (fun _ hk => .inl hk)) (HBD.out.mono hB) (by have := HSZ.out; omega) (by omega) ?_
  intro o1 w3 hR hbl hg _
  obtain ⟨A1, c1, ho1⟩ := Kd.R_slice hR
  generalize (L.out ++ [p]).length = n1 at ho1
  subst ho1
  have hown : ∀ k, (Value.slice A L.out.length c).ownBlock = some k → oko k := H0.out.out.1
  have hK3 : Kept w w3 oko := Kept.of_grown hg (Kept.of_below HBD.out oko) (fun k hk => .inl (hown k hk))
  have hX3 : w3.heap[g]? = some (.cells (row L q (.slice A L.out.length c)) 131 (0, 0)) := blk_kept H0.out.blk hK3 (fun ho => (H0.out.old g (.inr ho)).2 rfl)
  have hY3 : w3.heap[w.heap.size]? = some (.cells #[.int .i64 p.kind, .int .u32 p.mine, .int .u32 p.boot, .int .u32 p.yours, .int .u32 p.seq, .int .u32 p.ack, .int .u32 p.stamp, .int .u32 p.echo, .complex .f64 p.zr p.zi, b] 27 (0, 0)) := (hg.block w.heap.size (blk_lt HS2.out.2) (fun he => by have := (H0.out.old _ (.inr (hown _ he.symm))).1; omega)).trans HS2.out.2
  have HK3 := Lib.hid hK3
  have HX3 := Lib.hid hX3
  have HR3 := Lib.hid hR
  have HBL := Lib.hid hbl
  have HG3 := Lib.hid hg.size
  clear hR hbl hg hown HS2 hQ2 hM2 hK3 HM HP hHeld
  refine hK.out _ _ ⟨hX3, hY3⟩ (fun hHeld => ?_)
  clear hK K hX3 hY3
  refine norm_ (a' := ?_) ?_ ?_
  rotate_left
  · show Act.put _ (some 17) _ = _
    simp only [Act.put, List.setIfInBounds_toArray, List.set_cons_zero, List.set_cons_succ]
    rfl
  refine pure_ (i := 8) (N := some 18) (v := ?_) (a' := ?_) #[true, true, true, true, true, true, true, true, true, false, false] rfl rfl (by kernel_rfl) (fun _ _ _ h => h) (Or.inl ⟨by rfl, ?_⟩) ?_ ?_
  rotate_left
  · intro w'
    go_simp
    with_reducible rfl
  rotate_left
  · simp only [Act.put, List.setIfInBounds_toArray, List.set_cons_zero, List.set_cons_succ]
    rfl
  refine pure_ (i := 9) (N := some 19) (v := ?_) (a' := ?_) #[true, true, true, true, true, true, true, true, true, true, false] rfl rfl (by kernel_rfl) (fun _ _ _ h => h) (Or.inl ⟨by rfl, ?_⟩) ?_ ?_
  rotate_left
  · intro w'
    go_simp
    with_reducible rfl
  rotate_left
  · simp only [Act.put, List.setIfInBounds_toArray, List.set_cons_zero, List.set_cons_succ]
    rfl
  refine last_ (i := 10) (N := none) #[true, true, true, true, true, true, true, true, true, true, true] rfl rfl (by kernel_rfl) (by decide) (fun K hK => ?_)
  have hz1 : w3.cell? ⟨g, 11, none⟩ = some (.slice A L.out.length c) := (blk_cell HX3.out 11).trans rfl
  have hz2 := blk_frozen HX3.out 11
  refine skip_F (fun wz => At wz B okq (fun k => oko k ∨ w.heap.size ≤ k ∧ k < w3.heap.size) g { L with out := L.out ++ [p] } q (.slice A1 n1 c1) ∧ wz.heap.size = w3.heap.size ∧ Kept w wz (fun k => oko k ∨ k = g) ∧ Below B w wz ∧ wz.heap[w.heap.size]? = some (.cells #[.int .i64 p.kind, .int .u32 p.mine, .int .u32 p.boot, .int .u32 p.yours, .int .u32 p.seq, .int .u32 p.ack, .int .u32 p.stamp, .int .u32 p.echo, .complex .f64 p.zr p.zi, b] 27 (0, 0))) (by rfl) rfl ⟨_, by first | (go_simp; done) | (go_simp; rfl), ?_, ?_, ?_, ?_, ?_⟩ (fun w4 hF => ?_)
  · have hsz := HK3.out.1
    refine At.put' HX3.out 11 _ rfl (Kd.Q_kept H0.out.queue HK3.out (fun k ho => H0.out.apart k ho)) (Kd.R_mono (Kd.R_bound HR3.out) (fun k hk => hk.1.elim (fun h => .inl h) (fun h => .inr ⟨h, hk.2.2.1⟩))) H0.out.low (fun k hk ho => ho.elim (H0.out.apart k hk) (fun hn => by have := (H0.out.old k (.inl hk)).1; omega)) (fun k hk => ?_)
    have hgl : g < w.heap.size := blk_lt H0.out.blk
    rcases hk with hk | hk | hk
    · have := H0.out.old k (.inl hk); exact ⟨by omega, this.2⟩
    · have := H0.out.old k (.inr hk); exact ⟨by omega, this.2⟩
    · exact ⟨hk.2, by omega⟩
  · simp [World.setCell]
  · exact (HK3.out.mono (fun k hk => .inl hk)).setCell (p := ⟨g, 11, none⟩) (.inl (.inr rfl)) _
  · exact HBL.out.setCell (p := ⟨g, 11, none⟩) H0.out.low _
  · exact (Below.heap_setCell w3 ⟨g, 11, none⟩ _ w.heap.size (by have := blk_lt H0.out.blk; show w.heap.size ≠ g; omega)).trans hHeld.2
  have HF := Lib.hid hF
  clear hF hz1 hz2 hHeld
  refine hK.out _ _ ?_
  clear hK K
  refine done_ (by kernel_rfl) ?_
  go_wp2
  go_end0
  have hL : emit_ L p = { L with out := L.out ++ [p] } := by unfold emit_; rw [if_pos (by omega)]
  rw [hL]
  refine ⟨rfl, .slice A1 n1 c1, ?_, HF.out.2.2.1, HF.out.2.2.2.1⟩
  rw [HF.out.2.1]
  exact HF.out.1
end Go.Proofs.Ytnkkgofpifhoeaa.Lk
