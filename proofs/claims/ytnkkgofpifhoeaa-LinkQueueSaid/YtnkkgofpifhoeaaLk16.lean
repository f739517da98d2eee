/- The methods of an end, told without its blocks; two ends side by side. -/
import Derived.Test.YtnkkgofpifhoeaaLk14
import Derived.Test.YtnkkgofpifhoeaaLk15
namespace Go.Proofs.Ytnkkgofpifhoeaa.Lk
open Go.RowKit Go.Proofs.Ytnkkgofpifhoeaa.Base Go.Proofs.Ytnkkgofpifhoeaa.Pk Go.Proofs.YtnkkgofpifhoeaaW.PrintWords Go.Proofs.YtnkkgofpifhoeaaW.PrintLast
set_option linter.unusedSimpArgs false
set_option linter.unusedVariables false
/-- A packet that pack.Check lets by. -/
structure Pkt.Good (p : Pkt) : Prop where
  rng : p.Rng
  check : checkP p.kind p.mine p.boot p.yours p.seq p.ack p.stamp p.echo p.zr p.zi p.body.length = 0
  len : p.body.length ≤ 1000
/-- What is owned behind a call. -/
def more (own : Nat → Prop) (w w' : World) : Nat → Prop := fun k => own k ∨ w.heap.size ≤ k ∧ k < w'.heap.size
theorem Turns.end_ {w w' : World} {B g : Nat} {own : Nat → Prop} {L : Lk} (h : Turns w B own g L w') : End w' B (more own w w') g L := h.1
section
variable {w : World} {B g : Nat} {own : Nat → Prop} {L : Lk} (h : End w B own g L) (hB : B ≤ w.heap.size)
include h
theorem phase_end : Calls Try.prog 29 #[.pointer (some ⟨g, 0, none⟩)] w fun e w' => e = .returned (.int .i64 L.phase) ∧ w = w' := by
  obtain ⟨_, _, _, _, h, _⟩ := h
  exact phase_of h
theorem queue_end : Calls Try.prog 31 #[.pointer (some ⟨g, 0, none⟩)] w fun e w' => e = .returned (.int .i64 L.queue.length) ∧ w = w' := by
  obtain ⟨_, _, _, _, h, _⟩ := h
  exact queue_of h
include hB
theorem open_end (hok : L.Ok) : Calls Try.prog 27 #[.pointer (some ⟨g, 0, none⟩)] w fun e w' => e = .returned (.int .i64 (openE L)) ∧ Turns w B own g (openL L) w' := by
  obtain ⟨_, _, _, _, h, ho⟩ := h
  exact (open_of h hok hB).mono fun e w' hq => ⟨hq.1, Drops.turns ho hq.2⟩
omit hB in
theorem shut_end : Calls Try.prog 78 #[.pointer (some ⟨g, 0, none⟩)] w fun e w' => e = .returned (.bool (decide (L.phase = 2))) ∧ Turns w B own g (shut_ L) w' := by
  obtain ⟨_, _, _, _, h, ho⟩ := h
  refine (shut_of h).mono fun e w' hq => ⟨hq.1, ⟨⟨_, _, _, _, hq.2.1, fun k hk => .inl (ho k ?_)⟩, (kept_at' hq.2.2).mono (fun k hk => ho k (.inr (.inr hk))), hq.2.2.below (Below.refl _ _) h.low⟩⟩
  rcases hk with hk | hk | hk
  · exact hk.elim
  · exact .inr (.inl hk)
  · exact .inr (.inr hk)
theorem send_end (hok : L.Ok) (body : List Int) (Ab : Option Addr) (cb : Nat) (hC : (Kd.int .u8).C w Ab body.length body) :
    Calls Try.prog 30 #[.pointer (some ⟨g, 0, none⟩), .slice Ab body.length cb] w fun e w' => e = .returned (.int .i64 (sendE L body.length)) ∧ Turns w B own g (sendL L body) w' := by
  obtain ⟨_, _, _, _, h, ho⟩ := h
  exact send_of h hok hB body Ab cb hC ho
omit hB in
/-- Out: the packets, whose blocks were the end's own. -/
theorem out_end : Calls Try.prog 32 #[.pointer (some ⟨g, 0, none⟩)] w fun e w' => ∃ o okx, e = .returned o ∧ Turns w B own g { L with out := [] } w' ∧ pkt.R 27 w' B okx o L.out ∧ (∀ k, okx k → own k) ∧ w'.heap.size = w.heap.size := by
  obtain ⟨okq, oko, _, o, h, ho⟩ := h
  refine (out_of h).mono fun e w' hq => ⟨o, oko, hq.1, ⟨⟨_, _, _, _, hq.2.1, fun k hk => .inl (ho k ?_)⟩, (kept_at' hq.2.2.2).mono (fun k hk => ho k (.inr (.inr hk))), hq.2.2.2.below (Below.refl _ _) h.low⟩, hq.2.2.1, fun k hk => ho k (.inr (.inl hk)), hq.2.2.2.size⟩
  rcases hk with hk | hk | hk
  · exact .inl hk
  · exact hk.elim
  · exact .inr (.inr hk)
theorem take_end (hok : L.Ok) (boot : Int) (p : Pkt) (hb : 0 < boot ∧ boot < 4294967296) (hp : p.Good) {okp : Nat → Prop} {cs : List Value} (hM : pkt.M w B okp p cs) (hkp : ∀ k, okp k → ¬ own k) :
    Calls Try.prog 34 #[.pointer (some ⟨g, 0, none⟩), .int .u32 boot, .agg cs.toArray] w (TookT w B own g (takeF L boot p)) := by
  obtain ⟨_, _, _, _, h, ho⟩ := h
  obtain ⟨b, rfl, hR⟩ := pkt_M.1 hM
  obtain ⟨Ab, cb, rfl, hlen⟩ := Kd.R_slice hR
  exact take_of h hok ho hB boot p Ab cb (by omega) (by omega) hp.rng hp.check hp.len hR hkp
end
theorem Took.turns {w : World} {B g : Nat} {own : Nat → Prop} {x : Lk × Tk} {e : Ending} {w' : World} (h : TookT w B own g x e w') : Turns w B own g x.1 w' := by
  obtain ⟨vb, okb, he, hR, hk, hE, hK, hb⟩ := h
  exact ⟨hE.mono (fun k hk => hk.elim .inl (fun hn => .inr ⟨hn.1, hn.2.1⟩)), hK, hb⟩
/-- Two ends side by side. -/
structure Two (w : World) (B : Nat) (oa ob : Nat → Prop) (ga gb : Nat) (A D : Lk) : Prop where
  a : End w B oa ga A
  b : End w B ob gb D
  apart : ∀ k, oa k → ¬ ob k
  lta : ∀ k, oa k → k < w.heap.size
  ltb : ∀ k, ob k → k < w.heap.size
theorem Two.swap {w : World} {B : Nat} {oa ob : Nat → Prop} {ga gb : Nat} {A D : Lk} (h : Two w B oa ob ga gb A D) : Two w B ob oa gb ga D A := ⟨h.b, h.a, fun k hb ha => h.apart k ha hb, h.ltb, h.lta⟩
theorem Two.left {w w' : World} {B : Nat} {oa ob : Nat → Prop} {ga gb : Nat} {A A' D : Lk} (h : Two w B oa ob ga gb A D) (ht : Turns w B oa ga A' w') : Two w' B (more oa w w') ob ga gb A' D := by
  have hs := ht.2.1.1
  refine ⟨ht.1, h.b.kept ht.2.1 (fun k hb ha => h.apart k ha hb), fun k hk hb => ?_, fun k hk => ?_, fun k hk => Nat.lt_of_lt_of_le (h.ltb k hk) hs⟩
  · rcases hk with hk | hk
    · exact h.apart k hk hb
    · have := h.ltb k hb; omega
  · rcases hk with hk | hk
    · have := h.lta k hk; omega
    · exact hk.2
theorem Two.right {w w' : World} {B : Nat} {oa ob : Nat → Prop} {ga gb : Nat} {A D D' : Lk} (h : Two w B oa ob ga gb A D) (ht : Turns w B ob gb D' w') : Two w' B oa (more ob w w') ga gb A D' := (h.swap.left ht).swap
theorem Two.below {w w' : World} {B : Nat} {oa ob : Nat → Prop} {ga gb : Nat} {A D : Lk} (h : Two w B oa ob ga gb A D) (hb : Below w.heap.size w w') : Two w' B oa ob ga gb A D :=
  ⟨h.a.kept (Kept.of_below hb (fun _ => False)) (fun _ _ hf => hf), h.b.kept (Kept.of_below hb (fun _ => False)) (fun _ _ hf => hf), h.apart, fun k hk => Nat.lt_of_lt_of_le (h.lta k hk) hb.size, fun k hk => Nat.lt_of_lt_of_le (h.ltb k hk) hb.size⟩
end Go.Proofs.Ytnkkgofpifhoeaa.Lk
