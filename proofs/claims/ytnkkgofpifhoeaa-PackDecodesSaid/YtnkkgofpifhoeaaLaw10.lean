/- What is held while the bytes that were read are written over: the packet and its body stay. And: a packet that was read holds numbers that may be. -/
import Derived.Test.YtnkkgofpifhoeaaAlive10
import Derived.Test.YtnkkgofpifhoeaaRDecAny
import Derived.Test.YtnkkgofpifhoeaaSame
namespace Go.Proofs.Ytnkkgofpifhoeaa.Pk
open Go.RowKit Go.Proofs.Ytnkkgofpifhoeaa.Flt Go.Proofs.Ytnkkgofpifhoeaa.Num Go.Proofs.Ytnkkgofpifhoeaa.Base Go.Proofs.YtnkkgofpifhoeaaW.PrintWords Go.Proofs.YtnkkgofpifhoeaaW.PrintLast Go.Proofs.Ytnkkgofpifhoeaa.Steps
theorem R_addr {w : World} {base : Nat} {ok : Nat → Prop} {A : Option Addr} {n c : Nat} {xs : List Int} (h : (Kd.int .u8).R 5 w base ok (.slice A n c) xs) (hn : 0 < n) : ∃ g, A = some ⟨g, 0, none⟩ ∧ base ≤ g ∧ ok g := by
  obtain ⟨inner, ho⟩ := Kd.R_own h
  rcases ho.2 with ⟨he, h0⟩ | ⟨g, cap, cur, he, hb, _⟩
  · injection he with _ h2 _
    omega
  · injection he with h1 _ _
    exact ⟨g, h1, hb, h.1 g (by rw [h1]; rfl)⟩
/-- B parts what was there when the packet was read from what is new since. -/
structure Over (w : World) (B g4 n : Nat) (v1 : Value) (cells : Array Value) (v2 : Value) (body : List Int) (wr : World) : Prop where
  row : ∃ l', (Kd.int .u8).R 5 wr w.heap.size (fun k => k < B) v1 l'
  blk : wr.heap[g4]? = some (.cells cells 27 (0, 0))
  body : (Kd.int .u8).R 5 wr B (fun k => B ≤ k) v2 body
  below : Below w.heap.size w wr
theorem Over.store {w : World} {B g4 n c : Nat} {A : Option Addr} {cells : Array Value} {v2 : Value} {body : List Int} {wr : World} (h : Over w B g4 n (.slice A n c) cells v2 body wr) (k : Nat) (hk : k < n) :
    ∃ g x, A = some ⟨g, 0, none⟩ ∧ wr.cell? ⟨g, k, none⟩ = some (.int .u8 x) ∧ wr.frozen? ⟨g, k, none⟩ = false ∧ ∀ y, Over w B g4 n (.slice A n c) cells v2 body (wr.setCell ⟨g, k, none⟩ (.int .u8 y)) := by
  obtain ⟨l', hR⟩ := h.row
  obtain ⟨g, hA, hb, hg⟩ := R_addr hR (by omega)
  subst hA
  have hc := Kd.R_celln (0 : Int) hR (k : Int) (by omega) (by omega)
  rw [Int.toNat_natCast] at hc
  refine ⟨g, _, rfl, hc.1, hc.2, fun y => ⟨?_, ?_, ?_, ?_⟩⟩
  · have hp := Kd.R_putn hR (k : Int) y
    rw [Int.toNat_natCast] at hp
    exact ⟨_, hp⟩
  · have hne := Kd.R_ne hR h.blk (by decide)
    have hgg : g4 ≠ g := fun e => hne (by rw [e]; rfl)
    exact (Below.heap_setCell wr ⟨g, k, none⟩ _ g4 hgg).trans h.blk
  · exact Kd.R_far (p := ⟨g, k, none⟩) h.body (fun j hj => by
      have : B ≤ j := hj
      have : g < B := hg
      show j ≠ g
      omega) _
  · exact h.below.setCell hb _
theorem fin_0 : fin 0 = true := by decide
/-- A packet that is read holds a number that is finite. -/
theorem decP_fin (l : List Int) : fin (decP l).zr = true ∧ fin (decP l).zi = true := by
  rw [decP]
  by_cases hc : decC l = 0
  · rw [if_pos hc]
    rw [decC] at hc
    split at hc
    · cases hc
    split at hc
    · cases hc
    split at hc
    · cases hc
    split at hc
    · cases hc
    unfold pktOf at hc ⊢
    split
    · exact ⟨fin_0, fin_0⟩
    split
    · exact ⟨fin_0, fin_0⟩
    split
    · exact ⟨fin_0, fin_0⟩
    rename_i h1 h2 h3
    rw [if_neg h1, if_neg h2, if_neg h3] at hc
    have hc' : (if good4 (pkt4 l).mine (pkt4 l).boot (pkt4 l).yours (pkt4 l).seq (pkt4 l).zr (pkt4 l).zi (pkt4 l).body.length = true then (0 : Int) else 101) = 0 := hc
    by_cases hg : good4 (pkt4 l).mine (pkt4 l).boot (pkt4 l).yours (pkt4 l).seq (pkt4 l).zr (pkt4 l).zi (pkt4 l).body.length = true
    · unfold good4 at hg
      rw [Bool.and_eq_true] at hg
      have hp := hg.1
      unfold placeB at hp
      simp only [Bool.and_eq_true] at hp
      exact ⟨hp.1.1.1, hp.1.1.2⟩
    · rw [if_neg hg] at hc'
      cases hc'
  · rw [if_neg hc]
    exact ⟨fin_0, fin_0⟩
end Go.Proofs.Ytnkkgofpifhoeaa.Pk
