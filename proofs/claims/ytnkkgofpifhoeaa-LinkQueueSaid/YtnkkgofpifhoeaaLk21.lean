/- The law of the queue: what lies in memory while it goes. -/
import Derived.Test.YtnkkgofpifhoeaaLk20
import Derived.Test.YtnkkgofpifhoeaaLk19
namespace Go.Proofs.Ytnkkgofpifhoeaa.Lk
open Go.RowKit Go.Proofs.Ytnkkgofpifhoeaa.Base Go.Proofs.Ytnkkgofpifhoeaa.Pk Go.Proofs.YtnkkgofpifhoeaaW.PrintWords
set_option linter.unusedSimpArgs false
set_option linter.unusedVariables false
/-- A slice's header. -/
def rawK : Kd (Option Addr × Nat × Nat) := Kd.scalar (fun t => .slice t.1 t.2.1 t.2.2) (fun _ => rfl)
/-- The headers ts are those of the rows W. -/
def Tell (w : World) (ts : List (Option Addr × Nat × Nat)) (W : List (List Int)) : Prop :=
  ts.length = W.length ∧ ∀ j, j < W.length → ∃ A c, ts.getD j (none, 0, 0) = (A, (W.getD j []).length, c) ∧ (Kd.int .u8).C w A (W.getD j []).length (W.getD j [])
theorem Tell.more {w : World} {ts : List (Option Addr × Nat × Nat)} {W : List (List Int)} (h : Tell w ts W) {A : Option Addr} {c : Nat} {b : List Int} (hC : (Kd.int .u8).C w A b.length b) : Tell w (ts ++ [(A, b.length, c)]) (W ++ [b]) := by
  refine ⟨by simp [h.1], fun j hj => ?_⟩
  by_cases hlt : j < W.length
  · obtain ⟨A', c', h1, h2⟩ := h.2 j hlt
    have e1 : (ts ++ [(A, b.length, c)]).getD j (none, 0, 0) = ts.getD j (none, 0, 0) := by
      rw [List.getD_eq_getElem?_getD, List.getD_eq_getElem?_getD, List.getElem?_append_left (by rw [h.1]; exact hlt)]
    have e2 : (W ++ [b]).getD j [] = W.getD j [] := by
      rw [List.getD_eq_getElem?_getD, List.getD_eq_getElem?_getD, List.getElem?_append_left hlt]
    rw [e1, e2]
    exact ⟨A', c', h1, h2⟩
  · have hj' : j = W.length := by simp at hj; omega
    subst hj'
    have e1 : (ts ++ [(A, b.length, c)]).getD W.length (none, 0, 0) = (A, b.length, c) := by
      rw [List.getD_eq_getElem?_getD, List.getElem?_append_right (by rw [h.1]; exact Nat.le_refl _), h.1]
      simp
    have e2 : (W ++ [b]).getD W.length [] = b := by
      rw [List.getD_eq_getElem?_getD, List.getElem?_append_right (Nat.le_refl _)]
      simp
    rw [e1, e2]
    exact ⟨A, c, rfl, hC⟩
/-- Two ends, the slice of what is wanted, and the memory of before. -/
structure LQ (w : World) (B ga gb : Nat) (oa ob okw : Nat → Prop) (A D : Lk) (W : List (List Int)) (wv : Value) (ts : List (Option Addr × Nat × Nat)) (wr : World) : Prop where
  two : Two wr B oa ob ga gb A D
  want : rawK.R 22 wr B okw wv ts
  apart : ∀ k, okw k → ¬ oa k ∧ ¬ ob k ∧ k < wr.heap.size
  tell : Tell w ts W
  below : Below B w wr
section
variable {w wr : World} {B ga gb : Nat} {oa ob okw : Nat → Prop} {A D : Lk} {W : List (List Int)} {wv : Value} {ts : List (Option Addr × Nat × Nat)}
theorem LQ.swap (h : LQ w B ga gb oa ob okw A D W wv ts wr) : LQ w B gb ga ob oa okw D A W wv ts wr := ⟨h.two.swap, h.want, fun k hk => ⟨(h.apart k hk).2.1, (h.apart k hk).1, (h.apart k hk).2.2⟩, h.tell, h.below⟩
theorem LQ.left {w' : World} {A' : Lk} (h : LQ w B ga gb oa ob okw A D W wv ts wr) (ht : Turns wr B oa ga A' w') : LQ w B ga gb (more oa wr w') ob okw A' D W wv ts w' := by
  have hs := ht.2.1.1
  refine ⟨h.two.left ht, Kd.R_kept h.want ht.2.1 (fun k hk => (h.apart k hk).1), fun k hk => ⟨fun hx => ?_, (h.apart k hk).2.1, by have := (h.apart k hk).2.2; omega⟩, h.tell, h.below.trans ht.2.2⟩
  rcases hx with hx | hx
  · exact (h.apart k hk).1 hx
  · have := (h.apart k hk).2.2; omega
theorem LQ.right {w' : World} {D' : Lk} (h : LQ w B ga gb oa ob okw A D W wv ts wr) (ht : Turns wr B ob gb D' w') : LQ w B ga gb oa (more ob wr w') okw A D' W wv ts w' := (h.swap.left ht).swap
theorem LQ.sub {w' : World} (h : LQ w B ga gb oa ob okw A D W wv ts wr) (hb : Below wr.heap.size wr w') : LQ w B ga gb oa ob okw A D W wv ts w' :=
  ⟨h.two.below hb, Kd.R_kept h.want (Kept.of_below hb (fun _ => False)) (fun _ _ hf => hf), fun k hk => ⟨(h.apart k hk).1, (h.apart k hk).2.1, Nat.lt_of_lt_of_le (h.apart k hk).2.2 hb.size⟩, h.tell, h.below.trans (hb.mono (two_B h.two))⟩
/-- A header is appended. -/
theorem LQ.put {w1 : World} {v1 : Value} {t : Option Addr × Nat × Nat} {b : List Int} (h : LQ w B ga gb oa ob okw A D W wv ts wr) (hR : rawK.R 22 w1 B (fun k => okw k ∨ wr.heap.size ≤ k) v1 (ts ++ [t])) (hb : Below B w w1) (hg : wr.grownBy w1 wv.ownBlock) (hT : Tell w (ts ++ [t]) (W ++ [b])) :
    LQ w B ga gb oa ob (fun k => (okw k ∨ wr.heap.size ≤ k) ∧ k < w1.heap.size) A D (W ++ [b]) v1 (ts ++ [t]) w1 := by
  have hk : Kept wr w1 okw := Kept.of_grown hg (Kept.refl _ _) (fun k hk => .inl (h.want.1 k hk))
  have hs := hk.1
  refine ⟨⟨h.two.a.kept hk (fun k ha hw => (h.apart k hw).1 ha), h.two.b.kept hk (fun k ha hw => (h.apart k hw).2.1 ha), h.two.apart, fun k hx => Nat.lt_of_lt_of_le (h.two.lta k hx) hs, fun k hx => Nat.lt_of_lt_of_le (h.two.ltb k hx) hs⟩, Kd.R_mono (Kd.R_bound hR) (fun k hx => ⟨hx.1, hx.2.2.1⟩), fun k hx => ⟨fun ho => ?_, fun ho => ?_, hx.2⟩, hT, hb⟩
  · rcases hx.1 with hx | hx
    · exact (h.apart k hx).1 ho
    · have := h.two.lta k ho; omega
  · rcases hx.1 with hx | hx
    · exact (h.apart k hx).2.1 ho
    · have := h.two.ltb k ho; omega
/-- The j-th header read. -/
theorem LQ.head (h : LQ w B ga gb oa ob okw A D W wv ts wr) {j : Nat} (hj : j < W.length) : ∃ g c A' c', wv = .slice (some ⟨g, 0, none⟩) W.length c ∧ wr.cell? ⟨g, j, none⟩ = some (.slice A' (W.getD j []).length c') ∧ (Kd.int .u8).C w A' (W.getD j []).length (W.getD j []) := by
  obtain ⟨A', c', h1, h2⟩ := h.tell.2 j hj
  have hl := h.tell.1
  obtain ⟨g, c, hv, _⟩ := Kd.R_form h.want (by omega)
  have hR := h.want
  rw [hv] at hR
  obtain ⟨cs, hcl, hM, hc, _⟩ := Kd.R_elem hR (none, 0, 0) (j : Int) (by omega) (by omega)
  rw [Int.toNat_natCast, h1] at hM
  have hM' : cs = [Value.slice A' (W.getD j []).length c'] := hM
  subst hM'
  refine ⟨g, c, A', c', by rw [hv, hl], ?_, h2⟩
  have := hc 0 _ rfl
  rwa [show Kd.sz rawK = 1 from rfl, Nat.mul_one, Nat.add_zero, Int.toNat_natCast] at this
end
/-- Where a loop that hands packets over stands. -/
def FQ (w : World) (B ga gb : Nat) (A D : Lk) (W : List (List Int)) (wv : Value) (ts : List (Option Addr × Nat × Nat)) (x : Value) (ps : List Pkt) (i : Nat) (wr : World) : Prop :=
  ∃ oa ob okw okx, LQ w B ga gb oa ob okw A (feed 1 D (ps.take i)) W wv ts wr ∧ pkt.R 27 wr B okx x ps ∧ ∀ k, okx k → oa k
theorem FQ.step {w wr w' : World} {B ga gb : Nat} {A D : Lk} {W : List (List Int)} {wv : Value} {ts : List (Option Addr × Nat × Nat)} {ps : List Pkt} {i : Nat} {oa ob okw okx : Nat → Prop} {x : Value} (hi : i < ps.length) (h : LQ w B ga gb oa ob okw A (feed 1 D (ps.take i)) W wv ts wr) (hR : pkt.R 27 wr B okx x ps) (hk : ∀ k, okx k → oa k)
    (ht : Turns wr B ob gb (takeF (feed 1 D (ps.take i)) 1 (ps.getD i nilP)).1 w') : FQ w B ga gb A D W wv ts x ps (i + 1) w' := by
  refine ⟨oa, more ob wr w', okw, okx, ?_, Kd.R_kept hR ht.2.1 (fun k hx => h.two.apart k (hk k hx)), hk⟩
  rw [feed_take 1 D ps i hi]
  exact h.right ht
theorem FQ.sub {w wr w' : World} {B ga gb : Nat} {A D : Lk} {W : List (List Int)} {wv : Value} {ts : List (Option Addr × Nat × Nat)} {ps : List Pkt} {i : Nat} {x : Value} (h : FQ w B ga gb A D W wv ts x ps i wr) (hb : Below wr.heap.size wr w') : FQ w B ga gb A D W wv ts x ps i w' := by
  obtain ⟨oa, ob, okw, okx, h1, h2, h3⟩ := h
  exact ⟨oa, ob, okw, okx, h1.sub hb, Kd.R_kept h2 (Kept.of_below hb (fun _ => False)) (fun _ _ hf => hf), h3⟩
def tickN : Nat → Lk → Lk
  | 0, L => L
  | n + 1, L => tick_ (tickN n L)
theorem tickN_ok {L : Lk} (h : L.Ok) (n : Nat) : (tickN n L).Ok := by
  induction n with
  | zero => exact h
  | succ n ih => exact tick_ok ih
theorem tickN3 (W : List (List Int)) : tickN 3 (outL (st W 0)) = st W 0 := ticks_st W
/-- The other end takes the next signal: what Take answers. -/
theorem take_next {w : World} {B g : Nat} {own : Nat → Prop} {W : List (List Int)} {m : Nat} {o : List Pkt} (h : End w B own g (bS m o)) (hok : (bS m o).Ok) (hB : B ≤ w.heap.size) (ho : o.length < 1024) (hg : (dP W m).Good) {okp : Nat → Prop} {cs : List Value} (hM : pkt.M w B okp (dP W m) cs) (hkp : ∀ k, okp k → ¬ own k) :
    Calls Try.prog 34 #[.pointer (some ⟨g, 0, none⟩), .int .u32 1, .agg cs.toArray] w fun e w' => ∃ A c, e = .returned (.tuple #[.agg #[.bool true, .bool false, .bool false, .slice A (W.getD m []).length c], .int .i64 0]) ∧ (Kd.int .u8).C w' A (W.getD m []).length (W.getD m []) ∧ Turns w B own g (takeF (bS m o) 1 (dP W m)).1 w' := by
  refine (take_end h hB hok 1 (dP W m) (by decide) hg hM hkp).mono fun e w' hq => ?_
  have ht := Took.turns hq
  obtain ⟨vb, okb, he, hR, _⟩ := hq
  rw [take_b ho] at he hR
  obtain ⟨A, c, hv, _, hC⟩ := Kd.R_reads hR
  subst hv
  exact ⟨A, c, he, hC, ht⟩
end Go.Proofs.Ytnkkgofpifhoeaa.Lk
