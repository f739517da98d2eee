/- Take's memory: the link, the packet's variable, the result's variable. -/
import Derived.Test.YtnkkgofpifhoeaaLk11
import Derived.Test.YtnkkgofpifhoeaaLk7
import Derived.Test.YtnkkgofpifhoeaaLk6
import Derived.Test.YtnkkgofpifhoeaaLk8
import Derived.Test.YtnkkgofpifhoeaaCheck
namespace Go.Proofs.Ytnkkgofpifhoeaa.Lk
open Go.RowKit Go.Proofs.Ytnkkgofpifhoeaa.Base Go.Proofs.Ytnkkgofpifhoeaa.Steps Go.Proofs.YtnkkgofpifhoeaaW.PrintWords Go.Proofs.YtnkkgofpifhoeaaW.PrintLast
set_option linter.unusedSimpArgs false
set_option linter.unusedVariables false
structure TS (w : World) (B : Nat) (S : Nat → Prop) (g : Nat) (pc : Array Value) (okq oko okb : Nat → Prop) (L : Lk) (q o : Value) (hd up dn : Bool) (vb : Value) (body : List Int) (wz : World) : Prop where
  at_ : At wz B okq oko g L q o
  pb : wz.heap[w.heap.size]? = some (.cells pc 27 (0, 0))
  tb : wz.heap[w.heap.size + 1]? = some (.cells #[.bool hd, .bool up, .bool dn, vb] 56 (0, 0))
  kept : Kept w wz S
  below : Below B w wz
  far : ∀ k, okq k ∨ oko k → (S k ∧ k < w.heap.size) ∨ w.heap.size + 2 ≤ k
  gS : S g
  glt : g < w.heap.size
  brow : (Kd.int .u8).R 5 wz B okb vb body
  okb : ∀ k, okb k → w.heap.size + 2 ≤ k ∧ k < wz.heap.size ∧ ¬ okq k ∧ ¬ oko k
theorem slice45 (A : Option Addr) (n c k : Nat) (hk : k ≤ n) (hc : n ≤ c) (W : World) : (Instr.slice 45 (.slice A n c) (some (.int .u32 (k : Int))) none none).run Try.prog W = .ok (.slice (if c = k then A else A.map (·.add (k * bytes.sz))) (n - k) (c - k)) W := by
  have hu : Try.prog.underlying 45 = some (.slice (Try.prog.elem 45)) := by kernel_rfl
  have h1 : (0 : Int) ≤ k := by omega
  have h2 : (k : Int) ≤ n := by omega
  have e := run_slice_l (P := Try.prog) W 45 A n c hu IntKind.u32 (k : Int) h1 h2
  have hs : (sizeOf (Try.prog.elem 45)).run Try.prog W = .ok 1 W := by
    have : Try.prog.elem 45 = 22 := by kernel_rfl
    rw [this]
    obtain ⟨i0, hi0, _, hsz, _⟩ := info_parts info22
    go_simp
  rw [e, hs]
  rfl
def bumpL (L : Lk) : Lk := { L with expected := IntKind.u32.wrap (L.expected + 1) }
def cutL (L : Lk) (k : Nat) : Lk := { L with queue := L.queue.drop k, base := IntKind.u32.wrap (L.base + k), sent := L.sent - k, idle := 0 }
def ackP (L : Lk) : Pkt := ⟨3, L.token, L.boot, L.yours, 0, L.expected, 0, 0, 0, 0, []⟩
theorem wrapU (x : Int) : IntKind.u32.wrap x = x % 4294967296 := rfl
theorem wrap32 (x : Int) : 0 ≤ IntKind.u32.wrap x ∧ IntKind.u32.wrap x < 4294967296 := by rw [wrapU]; omega
theorem bump_ok {L : Lk} (h : L.Ok) : (bumpL L).Ok := ⟨h.own, h.phase, h.token, h.boot, h.yours, h.queue, h.rows, h.sent, h.base, wrap32 _, h.idle, h.out⟩
theorem cut_ok {L : Lk} (h : L.Ok) {k : Nat} (hk : (k : Int) ≤ L.sent) : (cutL L k).Ok := by
  have := h.sent
  have := h.queue
  refine ⟨h.own, h.phase, h.token, h.boot, h.yours, by show (L.queue.drop k).length ≤ 64; simp; omega, fun r hr => h.rows r (List.mem_of_mem_drop hr), ?_, wrap32 _, h.expected, by show 0 ≤ (0 : Int) ∧ (0 : Int) ≤ 1000; omega, h.out⟩
  show 0 ≤ L.sent - k ∧ L.sent - k ≤ ((L.queue.drop k).length : Int) ∧ L.sent - k ≤ 8
  simp
  omega
/-- A packet's numbers. -/
structure Pkt.Rng (p : Pkt) : Prop where
  mine : 0 ≤ p.mine ∧ p.mine < 4294967296
  boot : 0 ≤ p.boot ∧ p.boot < 4294967296
  yours : 0 ≤ p.yours ∧ p.yours < 4294967296
  seq : 0 ≤ p.seq ∧ p.seq < 4294967296
  ack : 0 ≤ p.ack ∧ p.ack < 4294967296
  zr : p.zr < 18446744073709551616
  zi : p.zi < 18446744073709551616
theorem peer_ok {L : Lk} (h : L.Ok) {b y : Int} (hb : 0 ≤ b ∧ b < 4294967296) (hy : 0 ≤ y ∧ y < 4294967296) (k : Bool) : ({ L with boot := b, yours := y, known := k } : Lk).Ok :=
  ⟨h.own, h.phase, h.token, hb, hy, h.queue, h.rows, h.sent, h.base, h.expected, h.idle, h.out⟩
theorem phase_ok {L : Lk} (h : L.Ok) {b : Int} (hb : 0 ≤ b ∧ b ≤ 2) : ({ L with phase := b } : Lk).Ok :=
  ⟨h.own, hb, h.token, h.boot, h.yours, h.queue, h.rows, h.sent, h.base, h.expected, h.idle, h.out⟩
/-- What Take leaves. -/
def Took (w : World) (B : Nat) (S : Nat → Prop) (g : Nat) (L : Lk) (hd up dn : Bool) (body : List Int) (e : Ending) (w' : World) : Prop :=
  ∃ vb okb, e = .returned (.tuple #[.agg #[.bool hd, .bool up, .bool dn, vb], .int .i64 0]) ∧ (Kd.int .u8).R 5 w' B okb vb body ∧ (∀ k, okb k → w.heap.size ≤ k ∧ k < w'.heap.size) ∧
    End w' B (fun k => S k ∨ (w.heap.size ≤ k ∧ k < w'.heap.size ∧ ¬ okb k)) g L ∧ Kept w w' S ∧ Below B w w'
section
variable {w wz : World} {B g : Nat} {S okq oko okb : Nat → Prop} {pc : Array Value} {L : Lk} {q o vb : Value} {hd up dn : Bool} {body : List Int}
theorem TS.start (h : At w B okq oko g L q o) (ho : ∀ k, holds okq oko g k → S k) (hB : B ≤ w.heap.size) (hb : Below (w.heap.size + 2) ((w.alloc (.cells pc 27)).alloc (.cells #[.bool false, .bool false, .bool false, .slice none 0 0] 56)) wz) :
    TS w B S g pc okq oko (fun _ => False) L q o false false false (.slice none 0 0) [] wz := by
  have hb0 : Below w.heap.size w ((w.alloc (.cells pc 27)).alloc (.cells #[.bool false, .bool false, .bool false, .slice none 0 0] 56)) := ((Below.refl _ _).alloc (Nat.le_refl _) _).alloc (by simp) _
  have hb1 : Below w.heap.size w wz := hb0.trans (hb.mono (by omega))
  have hs : (w.alloc (.cells pc 27)).heap.size = w.heap.size + 1 := by simp
  refine ⟨h.below hb1, ?_, ?_, Kept.of_below hb1 _, hb1.mono hB, fun k hk => .inl ⟨ho k (hk.elim .inl (fun x => .inr (.inl x))), (h.old k hk).1⟩, ho g (.inr (.inr rfl)), blk_lt h.blk, Kd.R_nil _ _ _ _ _, fun k hk => hk.elim⟩
  · refine (hb.block w.heap.size (by omega)).trans ?_
    refine Eq.trans (b := (w.alloc (.cells pc 27)).heap[w.heap.size]?) ?_ (heap_alloc_new w _)
    exact Below.heap_alloc _ _ _ (by omega)
  · refine (hb.block (w.heap.size + 1) (by omega)).trans ?_
    have := heap_alloc_new (w.alloc (.cells pc 27)) (.cells #[.bool false, .bool false, .bool false, .slice none 0 0] 56)
    rwa [hs] at this
variable (h : TS w B S g pc okq oko okb L q o hd up dn vb body wz)
include h
theorem TS.size : w.heap.size + 2 ≤ wz.heap.size := by have := blk_lt h.tb; omega
theorem TS.sub {w2 : World} (hB : B ≤ w.heap.size) (hb : Below wz.heap.size wz w2) : TS w B S g pc okq oko okb L q o hd up dn vb body w2 := by
  have hs := h.size
  exact ⟨h.at_.below hb, (hb.block _ (by omega)).trans h.pb, (hb.block _ (by omega)).trans h.tb, h.kept.below hb, h.below.trans (hb.mono (by omega)), h.far, h.gS, h.glt, Kd.R_kept h.brow (Kept.of_below hb (fun _ => False)) (fun _ _ hf => hf), fun k hk => ⟨(h.okb k hk).1, Nat.lt_of_lt_of_le (h.okb k hk).2.1 hb.size, (h.okb k hk).2.2⟩⟩
theorem TS.drewN (hB : B ≤ w.heap.size) (n : Nat) : TS w B S g pc okq oko okb L q o hd up dn vb body (wz.drewN n) := h.sub hB (pw_below_drewN (Below.refl _ _) n)
theorem TS.drew (hB : B ≤ w.heap.size) : TS w B S g pc okq oko okb L q o hd up dn vb body wz.drew := h.sub hB (bl_drew (Below.refl _ _))
theorem TS.far1 : ∀ k, holds okq oko g k → k ≠ w.heap.size + 1 ∧ k ≠ w.heap.size := fun k hk => by
  have := h.glt
  rcases hk with hk | hk | hk
  · rcases h.far k (.inl hk) with x | x <;> omega
  · rcases h.far k (.inr hk) with x | x <;> omega
  · omega
/-- The result's variable is written whole or in a field. -/
theorem TS.setT {w2 : World} {hd' up' dn' : Bool} {vb' : Value} {okb' : Nat → Prop} {body' : List Int} (hB : B ≤ w.heap.size) (hat : Go.Proofs.Ytnkkgofpifhoeaa.Steps.At (w.heap.size + 1) wz w2) (hc : w2.heap[w.heap.size + 1]? = some (.cells #[.bool hd', .bool up', .bool dn', vb'] 56 (0, 0)))
    (hR : (Kd.int .u8).R 5 wz B okb' vb' body') (hokb : ∀ k, okb' k → w.heap.size + 2 ≤ k ∧ k < wz.heap.size ∧ ¬ okq k ∧ ¬ oko k) : TS w B S g pc okq oko okb' L q o hd' up' dn' vb' body' w2 := by
  have hs := hat.size
  have hk : Kept wz w2 (fun k => k = w.heap.size + 1) := kept_at' hat
  refine ⟨h.at_.kept hk (fun k hh => (h.far1 k hh).1), (hat.block _ (by omega)).trans h.pb, hc, h.kept.then_ hk (fun k hk => .inr (by omega)), hat.below h.below (by omega), h.far, h.gS, h.glt, Kd.R_kept hR hk (fun k hk => by have := (hokb k hk).1; omega), fun k hk => ?_⟩
  rw [hs]
  exact hokb k hk
theorem TS.setT1 {hd' up' dn' : Bool} (hB : B ≤ w.heap.size) (i : Nat) (u : Value) (e : (#[Value.bool hd, Value.bool up, Value.bool dn, vb] : Array Value).setIfInBounds i u = #[.bool hd', .bool up', .bool dn', vb]) : TS w B S g pc okq oko okb L q o hd' up' dn' vb body (wz.setCell ⟨w.heap.size + 1, i, none⟩ u) :=
  h.setT hB (Steps.At.set (Steps.At.refl _ _) i u) (blk_put h.tb i u e) h.brow h.okb
/-- The link is written; its queue may go. -/
theorem TS.setL {w2 : World} {okq' : Nat → Prop} {L' : Lk} {q' : Value} (hB : B ≤ w.heap.size) (hat : Go.Proofs.Ytnkkgofpifhoeaa.Steps.At g wz w2) (ha : At w2 B okq' oko g L' q' o) (hq : ∀ k, okq' k → okq k) : TS w B S g pc okq' oko okb L' q' o hd up dn vb body w2 := by
  have hk : Kept wz w2 (fun k => k = g) := kept_at' hat
  have hg := h.glt
  refine ⟨ha, (hat.block _ (by omega)).trans h.pb, (hat.block _ (by omega)).trans h.tb, h.kept.then_ hk (fun k hk => .inl (hk ▸ h.gS)), hat.below h.below h.at_.low, fun k hk => h.far k (hk.elim (fun x => .inl (hq k x)) .inr), h.gS, h.glt, Kd.R_kept h.brow hk (fun k hk => by have := (h.okb k hk).1; omega), fun k hk => ?_⟩
  rw [hat.size]
  exact ⟨(h.okb k hk).1, (h.okb k hk).2.1, fun hx => (h.okb k hk).2.2.1 (hq k hx), (h.okb k hk).2.2.2⟩
theorem TS.setL1 {L' : Lk} (hB : B ≤ w.heap.size) (i : Nat) (u : Value) (e : (row L q o).setIfInBounds i u = row L' q o) (hq : L'.queue = L.queue) (ho : L'.out = L.out) : TS w B S g pc okq oko okb L' q o hd up dn vb body (wz.setCell ⟨g, i, none⟩ u) :=
  h.setL hB (Steps.At.set (Steps.At.refl _ _) i u) (h.at_.put1 i u e hq ho) (fun _ x => x)
/-- The queue's head is cut off. -/
theorem TS.cut {A6 A7 : Option Addr} {c6 qn kn : Nat} (hB : B ≤ w.heap.size) (hq : q = .slice A6 qn c6) (hk : kn ≤ L.queue.length) (hA : A7 = (if c6 = kn then A6 else A6.map (·.add (kn * bytes.sz)))) :
    TS w B S g pc okq oko okb { L with queue := L.queue.drop kn } (.slice A7 (qn - kn) (c6 - kn)) o hd up dn vb body (wz.setCell ⟨g, 6, none⟩ (.slice A7 (qn - kn) (c6 - kn))) := by
  subst hq hA
  exact h.setL hB (Steps.At.set (Steps.At.refl _ _) 6 _) (h.at_.put 6 _ rfl (Kd.Q_drop h.at_.queue hk) h.at_.out h.at_.apart h.at_.old) (fun _ x => x)
/-- A row made behind it. -/
theorem TS.grow {w2 : World} {v1 : Value} {ys : List Int} (hB : B ≤ w.heap.size) (hb : Below wz.heap.size wz w2) (hR : (Kd.int .u8).R 5 w2 B (fun k => wz.heap.size ≤ k) v1 ys) : TS w B S g pc okq oko okb L q o hd up dn vb body w2 ∧
    (Kd.int .u8).R 5 w2 B (fun k => wz.heap.size ≤ k ∧ k < w2.heap.size) v1 ys ∧ ∀ k, (wz.heap.size ≤ k ∧ k < w2.heap.size) → w.heap.size + 2 ≤ k ∧ k < w2.heap.size ∧ ¬ okq k ∧ ¬ oko k := by
  have hs := h.size
  refine ⟨h.sub hB hb, Kd.R_mono (Kd.R_bound hR) (fun k hk => ⟨hk.1, hk.2.2.1⟩), fun k hk => ⟨by omega, hk.2, fun hx => ?_, fun hx => ?_⟩⟩
  · have := (h.at_.old k (.inl hx)).1; omega
  · have := (h.at_.old k (.inr hx)).1; omega
theorem TS.emits {w2 : World} {L' : Lk} {q' : Value} (hB : B ≤ w.heap.size) (he : Emits wz B okq oko g L' q' w2) : ∃ oko' o', TS w B S g pc okq oko' okb L' q' o' hd up dn vb body w2 := by
  obtain ⟨o', a, k1, b1⟩ := he
  have hs := h.size
  have hs1 := k1.1
  have hg := h.glt
  refine ⟨_, o', a, ?_, ?_, h.kept.then_ k1 (fun k hk => ?_), h.below.trans b1, fun k hk => ?_, h.gS, h.glt, Kd.R_kept h.brow k1 (fun k hk hx => ?_), fun k hk => ⟨(h.okb k hk).1, by have := (h.okb k hk).2.1; omega, (h.okb k hk).2.2.1, fun hx => ?_⟩⟩
  · exact blk_kept h.pb k1 (fun hx => (h.far1 _ (.inr hx)).2 rfl)
  · exact blk_kept h.tb k1 (fun hx => (h.far1 _ (.inr hx)).1 rfl)
  · rcases hk with hk | hk
    · rcases h.far k (.inr hk) with x | x
      · exact .inl x.1
      · exact .inr (by omega)
    · exact .inl (hk ▸ h.gS)
  · rcases hk with hk | hk | hk
    · exact h.far k (.inl hk)
    · exact h.far k (.inr hk)
    · exact .inr (by omega)
  · rcases hx with hx | hx
    · exact (h.okb k hk).2.2.2 hx
    · have := (h.okb k hk).1; omega
  · rcases hx with hx | hx
    · exact (h.okb k hk).2.2.2 hx
    · have := (h.okb k hk).2.1; omega
theorem TS.ends : Took w B S g L hd up dn body (.returned (.tuple #[.agg #[.bool hd, .bool up, .bool dn, vb], .int .i64 0])) wz := by
  refine ⟨vb, okb, rfl, h.brow, fun k hk => ⟨by have := (h.okb k hk).1; omega, (h.okb k hk).2.1⟩, ⟨okq, oko, q, o, h.at_, fun k hk => ?_⟩, h.kept, h.below⟩
  rcases hk with hk | hk | hk
  · rcases h.far k (.inl hk) with x | x
    · exact .inl x.1
    · exact .inr ⟨by omega, (h.at_.old k (.inl hk)).1, fun hx => (h.okb k hx).2.2.1 hk⟩
  · rcases h.far k (.inr hk) with x | x
    · exact .inl x.1
    · exact .inr ⟨by omega, (h.at_.old k (.inr hk)).1, fun hx => (h.okb k hx).2.2.2 hk⟩
  · exact .inl (hk ▸ h.gS)
end
end Go.Proofs.Ytnkkgofpifhoeaa.Lk
