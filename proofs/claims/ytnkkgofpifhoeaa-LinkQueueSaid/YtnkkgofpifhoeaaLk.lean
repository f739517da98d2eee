/- One end of a link in memory: its block, its queue, its packets that wait. -/
import Derived.Test.YtnkkgofpifhoeaaSteps
import Derived.Test.YtnkkgofpifhoeaaWQPut
import Derived.Test.YtnkkgofpifhoeaaWKept
import Derived.Test.YtnkkgofpifhoeaaWShare
import Derived.Test.YtnkkgofpifhoeaaWInvWords
namespace Go.Proofs.Ytnkkgofpifhoeaa.Lk
open Go.RowKit Go.Proofs.Ytnkkgofpifhoeaa.Steps Go.Proofs.YtnkkgofpifhoeaaW.PrintWords
set_option linter.unusedSimpArgs false
set_option linter.unusedVariables false
/-- A packet. -/
structure Pkt where
  kind : Int
  mine : Int
  boot : Int
  yours : Int
  seq : Int
  ack : Int
  stamp : Int
  echo : Int
  zr : Nat
  zi : Nat
  body : List Int
def cx : Kd (Nat × Nat) := Kd.scalar (fun z => .complex .f64 z.1 z.2) (fun _ => rfl)
def u32s : Kd Int := Kd.int .u32
def bytes : Kd (List Int) := Kd.slice 5 (Kd.int .u8)
def pkt : Kd Pkt := Kd.iso (Kd.pair (Kd.int .i64) (Kd.pair u32s (Kd.pair u32s (Kd.pair u32s (Kd.pair u32s (Kd.pair u32s (Kd.pair u32s (Kd.pair u32s (Kd.pair cx bytes)))))))))
  (fun p => (p.kind, p.mine, p.boot, p.yours, p.seq, p.ack, p.stamp, p.echo, (p.zr, p.zi), p.body))
/-- A packet's cells. -/
def cells (p : Pkt) (b : Value) : List Value := [.int .i64 p.kind, .int .u32 p.mine, .int .u32 p.boot, .int .u32 p.yours, .int .u32 p.seq, .int .u32 p.ack, .int .u32 p.stamp, .int .u32 p.echo, .complex .f64 p.zr p.zi, b]
theorem pkt_sz : pkt.sz = 10 := rfl
theorem pkt_E : pkt.E = [5] := rfl
theorem pkt_M {w : World} {base : Nat} {ok : Nat → Prop} {p : Pkt} {cs : List Value} : pkt.M w base ok p cs ↔ ∃ b, cs = cells p b ∧ (Kd.int .u8).R 5 w base ok b p.body := by
  constructor
  · rintro ⟨_, _, rfl, rfl, _, _, rfl, rfl, _, _, rfl, rfl, _, _, rfl, rfl, _, _, rfl, rfl, _, _, rfl, rfl, _, _, rfl, rfl, _, _, rfl, rfl, _, _, rfl, rfl, b, rfl, h⟩
    exact ⟨b, rfl, h⟩
  · rintro ⟨b, rfl, h⟩
    exact ⟨_, _, rfl, rfl, _, _, rfl, rfl, _, _, rfl, rfl, _, _, rfl, rfl, _, _, rfl, rfl, _, _, rfl, rfl, _, _, rfl, rfl, _, _, rfl, rfl, _, _, rfl, rfl, b, rfl, h⟩
theorem pkt_K {w : World} {p : Pkt} {cs : List Value} : pkt.K w p cs ↔ ∃ A c, cs = cells p (.slice A p.body.length c) ∧ p.body.length ≤ c ∧ (Kd.int .u8).C w A p.body.length p.body := by
  constructor
  · rintro ⟨_, _, rfl, rfl, _, _, rfl, rfl, _, _, rfl, rfl, _, _, rfl, rfl, _, _, rfl, rfl, _, _, rfl, rfl, _, _, rfl, rfl, _, _, rfl, rfl, _, _, rfl, rfl, A, c, rfl, h1, h2⟩
    exact ⟨A, c, rfl, h1, h2⟩
  · rintro ⟨A, c, rfl, h1, h2⟩
    exact ⟨_, _, rfl, rfl, _, _, rfl, rfl, _, _, rfl, rfl, _, _, rfl, rfl, _, _, rfl, rfl, _, _, rfl, rfl, _, _, rfl, rfl, _, _, rfl, rfl, _, _, rfl, rfl, A, c, rfl, h1, h2⟩
/-- An end. -/
structure Lk where
  own : Int
  phase : Int
  token : Int
  boot : Int
  yours : Int
  known : Bool
  queue : List (List Int)
  sent : Int
  base : Int
  expected : Int
  idle : Int
  out : List Pkt
/-- What an end keeps to. -/
structure Lk.Ok (L : Lk) : Prop where
  own : 0 ≤ L.own ∧ L.own < 4294967296
  phase : 0 ≤ L.phase ∧ L.phase ≤ 2
  token : 0 ≤ L.token ∧ L.token < 4294967296
  boot : 0 ≤ L.boot ∧ L.boot < 4294967296
  yours : 0 ≤ L.yours ∧ L.yours < 4294967296
  queue : L.queue.length ≤ 64
  rows : ∀ r ∈ L.queue, r.length ≤ 1000
  sent : 0 ≤ L.sent ∧ L.sent ≤ L.queue.length ∧ L.sent ≤ 8
  base : 0 ≤ L.base ∧ L.base < 4294967296
  expected : 0 ≤ L.expected ∧ L.expected < 4294967296
  idle : 0 ≤ L.idle ∧ L.idle ≤ 1000
  out : L.out.length ≤ 1024
def row (L : Lk) (q o : Value) : Array Value := #[.int .u32 L.own, .int .i64 L.phase, .int .u32 L.token, .int .u32 L.boot, .int .u32 L.yours, .bool L.known, q, .int .i64 L.sent, .int .u32 L.base, .int .u32 L.expected, .int .i64 L.idle, o]
/-- An end in memory: block g; okq: the queue's blocks; oko: those of the packets that wait. -/
structure At (w : World) (B : Nat) (okq oko : Nat → Prop) (g : Nat) (L : Lk) (q o : Value) : Prop where
  blk : w.heap[g]? = some (.cells (row L q o) 131 (0, 0))
  queue : bytes.Q 22 w B okq q L.queue
  out : pkt.R 27 w B oko o L.out
  low : B ≤ g
  apart : ∀ k, okq k → ¬ oko k
  old : ∀ k, okq k ∨ oko k → k < w.heap.size ∧ k ≠ g
/-- Blocks that an end holds. -/
def holds (okq oko : Nat → Prop) (g : Nat) : Nat → Prop := fun k => okq k ∨ oko k ∨ k = g
/-- No more than before, or new. -/
def Grow (w : World) (ok ok' : Nat → Prop) : Prop := ∀ k, ok' k → ok k ∨ w.heap.size ≤ k
theorem Grow.refl (w : World) (ok : Nat → Prop) : Grow w ok ok := fun _ h => .inl h
theorem Grow.trans {w w1 : World} {a b c : Nat → Prop} (h : Grow w a b) (k : Grow w1 b c) (hs : w.heap.size ≤ w1.heap.size) : Grow w a c := fun i hi => (k i hi).elim (fun hb => h i hb) (fun hn => .inr (by omega))
theorem At.kept {w w1 : World} {B g : Nat} {okq oko S : Nat → Prop} {L : Lk} {q o : Value} (h : At w B okq oko g L q o) (hk : Kept w w1 S) (hd : ∀ k, holds okq oko g k → ¬ S k) : At w1 B okq oko g L q o :=
  ⟨blk_kept h.blk hk (hd g (.inr (.inr rfl))), Kd.Q_kept h.queue hk (fun k ho => hd k (.inl ho)), Kd.R_kept h.out hk (fun k ho => hd k (.inr (.inl ho))), h.low, h.apart, fun k hk' => ⟨Nat.lt_of_lt_of_le (h.old k hk').1 hk.1, (h.old k hk').2⟩⟩
theorem At.below {w w1 : World} {B g : Nat} {okq oko : Nat → Prop} {L : Lk} {q o : Value} (h : At w B okq oko g L q o) (hb : Below w.heap.size w w1) : At w1 B okq oko g L q o := h.kept (Kept.of_below hb (fun _ => False)) (fun _ _ hf => hf)
/-- A store into the end's block. -/
theorem At.put {w : World} {B g : Nat} {okq oko okq' oko' : Nat → Prop} {L L' : Lk} {q o q' o' : Value} (h : At w B okq oko g L q o) (i : Nat) (u : Value) (e : (row L q o).setIfInBounds i u = row L' q' o')
    (hq : bytes.Q 22 w B okq' q' L'.queue) (hout : pkt.R 27 w B oko' o' L'.out) (hap : ∀ k, okq' k → ¬ oko' k) (hold : ∀ k, okq' k ∨ oko' k → k < w.heap.size ∧ k ≠ g) : At (w.setCell ⟨g, i, none⟩ u) B okq' oko' g L' q' o' := by
  have hk : Kept w (w.setCell ⟨g, i, none⟩ u) (fun k => k = g) := Kept.setCell (S := fun k => k = g) (Kept.refl w _) (p := ⟨g, i, none⟩) (.inl rfl) u
  exact ⟨blk_put h.blk i u e, Kd.Q_kept hq hk (fun k ho => (hold k (.inl ho)).2), Kd.R_kept hout hk (fun k ho => (hold k (.inr ho)).2), h.low, hap, fun k hk' => ⟨Nat.lt_of_lt_of_le (hold k hk').1 hk.1, (hold k hk').2⟩⟩
theorem At.put1 {w : World} {B g : Nat} {okq oko : Nat → Prop} {L L' : Lk} {q o : Value} (h : At w B okq oko g L q o) (i : Nat) (u : Value) (e : (row L q o).setIfInBounds i u = row L' q o) (hq : L'.queue = L.queue) (ho : L'.out = L.out) : At (w.setCell ⟨g, i, none⟩ u) B okq oko g L' q o :=
  h.put i u e (hq ▸ h.queue) (ho ▸ h.out) h.apart h.old
theorem At.noq {w : World} {B g : Nat} {okq oko : Nat → Prop} {L L' : Lk} {q o : Value} (h : At w B okq oko g L q o) (e : (row L q o).setIfInBounds 6 (.slice none 0 0) = row L' (.slice none 0 0) o) (hq : L'.queue = []) (ho : L'.out = L.out) : At (w.setCell ⟨g, 6, none⟩ (.slice none 0 0)) B (fun _ => False) oko g L' (.slice none 0 0) o :=
  h.put 6 _ e (hq ▸ Kd.Q_nil _ _ _ _ _) (ho ▸ h.out) (fun _ hf => hf.elim) (fun k hk => h.old k (.inr (hk.elim (fun f => False.elim f) (fun x => x))))
end Go.Proofs.Ytnkkgofpifhoeaa.Lk
