/- A conversion of a literal row of bytes to its own type ('[]byte("abc")'): the row keeps its cells, and reads as it did. -/
import Derived.Test.YtlhncceabneckaaProg
import Derived.Test.YtlhncceabneckaaWWords
import Derived.Lib.SlBytesConst
namespace Go.Proofs.Ytlhncceabneckaa.Mark
open Go.RowKit Go.Proofs.YtlhncceabneckaaW.PrintWords
section
variable {P : Program}

theorem heap_freeze (W : World) (g k : Nat) (cur : Array Value) (e : TypeId) (h : W.heap[g]? = some (.cells cur e (0, 0))) :
    (W.freeze ⟨g, k, none⟩ 1).heap[g]? = some (.cells cur e (k, k + 1)) := by
  unfold World.freeze
  rw [if_neg (by decide)]
  simp only [Array.getElem?_modify, if_true, h, Option.map_some]
  simp

theorem grown_freeze (W : World) (g k : Nat) : W.grownBy (W.freeze ⟨g, k, none⟩ 1) (some g) := by
  unfold World.freeze
  rw [if_neg (by decide)]
  refine ⟨rfl, rfl, rfl, by simp, fun j hj hne => ?_⟩
  have : g ≠ j := fun e => hne (by rw [e])
  simp [Array.getElem?_modify, this]

theorem run_mark {W : World} {t e : TypeId} {g n c : Nat} {cur : Array Value} (ht : P.underlying t = some (.slice e)) (he : P.underlying e = some (.int .u8))
    (hg : W.heap[g]? = some (.cells cur e (0, 0))) :
    (convert t t (.slice (some ⟨g, 0, none⟩) n c)).run P W = .ok (.slice (some ⟨g, 0, none⟩) n c) (W.freeze ⟨g, cur.size, none⟩ 1) := by
  have hsh : W.shape? g = some (e, cur.size) := by unfold World.shape?; rw [hg]
  simp [convert, run_underlying ht, run_underlying he, markStringish, hsh]

variable {ops : Array Oper} {rest : List Oper} {o : Oper} {a : Act} {Q : Exit → Act → World → Prop}
/-- The conversion, as an arm of a walk: behind it the row is read. -/
theorem mark_event {W : World} {t e : TypeId} (ht : P.underlying t = some (.slice e)) (he : P.underlying e = some (.int .u8)) (hgd : o.guard = none)
    {base : Nat} {ok : Nat → Prop} {v : Value} {x : Int} {xs : List Int} (HO : Kd.R (Kd.int .u8) e W base ok v (x :: xs))
    (hrun : (execOp a.eval o).run P W = (Sem.run P (convert t t v) W).andThen fun b w' => Result.ok (Next.value b) w')
    (h : ∀ w1, (∀ A n c, v = .slice A n c → Kd.C (Kd.int .u8) w1 A n (x :: xs)) → W.grownBy w1 v.ownBlock → wpList P ops Q rest (a.put o.dst v) w1) :
    wpList P ops Q (o :: rest) a W := by
  obtain ⟨A, c, hv, hc, hC⟩ := Kd.R_reads HO
  obtain ⟨inner, hown⟩ := Kd.R_own HO
  rcases hown.2 with ⟨_, h0⟩ | ⟨g, cap, cur, hvg, hb, hg, hle, hcap, hsz, htk⟩
  · simp at h0
  · subst hvg
    refine Kd.event_run hgd (w1 := W.freeze ⟨g, cur.size, none⟩ 1) (v := .slice (some ⟨g, 0, none⟩) (x :: xs).length cap) ?_ ?_
    · rw [hrun, run_mark ht he hg]; rfl
    · refine h _ (fun A n c e1 => ?_) (grown_freeze W g _)
      have hA : A = some ⟨g, 0, none⟩ ∧ n = (x :: xs).length := by
        injection e1 with h1 h2 h3
        exact ⟨h1.symm, h2.symm⟩
      obtain ⟨rfl, rfl⟩ := hA
      injection hv with h1 h2 h3
      subst h1
      refine ⟨hC.1, hC.2.1, fun hn => ?_⟩
      obtain ⟨ad, e2, hr⟩ := hC.2.2 hn
      injection e2 with e2
      subst e2
      refine ⟨_, rfl, fun j p hj => ?_⟩
      obtain ⟨cs, hl, hK, hcell⟩ := hr j p hj
      refine ⟨cs, hl, hK, fun i u hu => ?_⟩
      rw [← hcell i u hu]
      have hadd : ∀ q, (⟨g, 0, none⟩ : Addr).add q = ⟨g, q, none⟩ := fun q => by unfold Addr.add; split <;> simp_all
      rw [hadd, cell_of_row _ g _ cur e _ (heap_freeze W g _ cur e hg), cell_of_row _ g _ cur e _ hg]

/-- What is carried through a region: a world in which a slice of bytes reads, and what the conversion to a string gives there. -/
def Str (P : Program) (src dst : TypeId) (v : Value) (xs : List Int) (C : World → Prop) (w : World) : Prop :=
  (∀ w', C w' → ∀ w1, Below w'.heap.size w' w1 → C w1) ∧ (∀ w' nd, C w' → C (w'.drewN nd)) ∧ (∀ w', C w' → (convert src dst v).run P w' = .ok (.string (strOfNums xs)) w') ∧ C w
theorem str_read {w : World} {src dst e : TypeId} {A : Option Addr} {n : Nat} (c : Nat) {xs : List Int} (hs : P.underlying src = some (.slice e)) (he : P.underlying e = some (.int .u8)) (hd : P.underlying dst = some .string)
    (h : Kd.C (Kd.int .u8) w A n xs) : ∃ C, Str P src dst (.slice A n c) xs C w :=
  ⟨fun w' => Kd.C (Kd.int .u8) w' A n xs, fun _ h _ hb => Kd.C_below h hb, fun _ nd h => Kd.C_drewN h nd, fun _ h => Kd.C_string hs he hd h, h⟩
theorem str_own {w : World} {src dst e e' base : Nat} {ok : Nat → Prop} {v : Value} {xs : List Int} (hs : P.underlying src = some (.slice e)) (he : P.underlying e = some (.int .u8)) (hd : P.underlying dst = some .string)
    (h : Kd.R (Kd.int .u8) e' w base ok v xs) : ∃ C, Str P src dst v xs C w := by
  obtain ⟨A, c, rfl, hc, hC⟩ := Kd.R_reads h
  exact str_read c hs he hd hC
end
end Go.Proofs.Ytlhncceabneckaa.Mark
