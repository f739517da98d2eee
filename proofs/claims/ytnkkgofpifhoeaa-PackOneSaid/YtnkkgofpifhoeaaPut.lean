/- A number's bytes behind others: pack's put, for 4 and for 8 bytes. -/
import Derived.Test.YtnkkgofpifhoeaaPPackDecodesx1
import Derived.Test.YtnkkgofpifhoeaaSeg
namespace Go.Proofs.Ytnkkgofpifhoeaa.Pk
open Go.RowKit Go.Proofs.Ytnkkgofpifhoeaa.Base Go.Proofs.YtnkkgofpifhoeaaW.PrintWords Go.Proofs.YtnkkgofpifhoeaaW.PrintLast Go.Proofs.YtnkkgofpifhoeaaW.PrintMore Go.Proofs.Ytnkkgofpifhoeaa.PPackDecodes
set_option linter.unusedSimpArgs false
set_option linter.unusedVariables false
def put4 (n : Int) : List Int := [(shr .u64 n 24) % 256, (shr .u64 n 16) % 256, (shr .u64 n 8) % 256, (shr .u64 n 0) % 256]
def put8 (n : Int) : List Int := [(shr .u64 n 56) % 256, (shr .u64 n 48) % 256, (shr .u64 n 40) % 256, (shr .u64 n 32) % 256, (shr .u64 n 24) % 256, (shr .u64 n 16) % 256, (shr .u64 n 8) % 256, (shr .u64 n 0) % 256]
theorem put_round (k : Nat) (l : List Int) (n i : Int) (h0 : 0 ≤ i) (h1 : i ≤ 7) (hl : l.length ≤ 100000) : pack_put.l0 (k + 1) l n i = pack_put.l0 k (l ++ [(shr .u64 n (8 * i)) % 256]) n (i - 1) := by
  have e1 : wrap64 (8 * i) = 8 * i := by unfold wrap64; omega
  have e2 : wrap64 (i - 1) = i - 1 := by unfold wrap64; omega
  rw [pack_put.l0, e1, e2, if_pos h0, if_pos (by omega), if_pos (by omega)]
theorem put_stop (k : Nat) (l : List Int) (n : Int) : pack_put.l0 (k + 1) l n (-1) = some l := by
  rw [pack_put.l0, if_neg (by decide)]
theorem put_4 (l : List Int) (n : Int) (hl : l.length ≤ 50000) : pack_put.f 9 l n 4 = some (l ++ put4 n) := by
  have e : wrap64 (4 - 1) = 3 := by unfold wrap64; omega
  have h : ∀ m : List Int, m.length ≤ 8 → (l ++ m).length ≤ 100000 := fun m hm => by rw [List.length_append]; omega
  unfold pack_put.f
  rw [e, put_round 8 l n 3 (by decide) (by decide) (by omega)]
  show pack_put.l0 8 (l ++ [(shr .u64 n 24) % 256]) n 2 = _
  rw [put_round 7 _ n 2 (by decide) (by decide) (h _ (by simp)), List.append_assoc]
  show pack_put.l0 7 (l ++ [(shr .u64 n 24) % 256, (shr .u64 n 16) % 256]) n 1 = _
  rw [put_round 6 _ n 1 (by decide) (by decide) (h _ (by simp)), List.append_assoc]
  show pack_put.l0 6 (l ++ [(shr .u64 n 24) % 256, (shr .u64 n 16) % 256, (shr .u64 n 8) % 256]) n 0 = _
  rw [put_round 5 _ n 0 (by decide) (by decide) (h _ (by simp)), List.append_assoc]
  exact put_stop 4 _ n
theorem put_8 (l : List Int) (n : Int) (hl : l.length ≤ 50000) : pack_put.f 9 l n 8 = some (l ++ put8 n) := by
  have e : wrap64 (8 - 1) = 7 := by unfold wrap64; omega
  have h : ∀ m : List Int, m.length ≤ 8 → (l ++ m).length ≤ 100000 := fun m hm => by rw [List.length_append]; omega
  unfold pack_put.f
  rw [e, put_round 8 l n 7 (by decide) (by decide) (by omega)]
  show pack_put.l0 8 (l ++ [(shr .u64 n 56) % 256]) n 6 = _
  rw [put_round 7 _ n 6 (by decide) (by decide) (h _ (by simp)), List.append_assoc]
  show pack_put.l0 7 (l ++ [(shr .u64 n 56) % 256, (shr .u64 n 48) % 256]) n 5 = _
  rw [put_round 6 _ n 5 (by decide) (by decide) (h _ (by simp)), List.append_assoc]
  show pack_put.l0 6 (l ++ [(shr .u64 n 56) % 256, (shr .u64 n 48) % 256, (shr .u64 n 40) % 256]) n 4 = _
  rw [put_round 5 _ n 4 (by decide) (by decide) (h _ (by simp)), List.append_assoc]
  show pack_put.l0 5 (l ++ [(shr .u64 n 56) % 256, (shr .u64 n 48) % 256, (shr .u64 n 40) % 256, (shr .u64 n 32) % 256]) n 3 = _
  rw [put_round 4 _ n 3 (by decide) (by decide) (h _ (by simp)), List.append_assoc]
  show pack_put.l0 4 (l ++ [(shr .u64 n 56) % 256, (shr .u64 n 48) % 256, (shr .u64 n 40) % 256, (shr .u64 n 32) % 256, (shr .u64 n 24) % 256]) n 2 = _
  rw [put_round 3 _ n 2 (by decide) (by decide) (h _ (by simp)), List.append_assoc]
  show pack_put.l0 3 (l ++ [(shr .u64 n 56) % 256, (shr .u64 n 48) % 256, (shr .u64 n 40) % 256, (shr .u64 n 32) % 256, (shr .u64 n 24) % 256, (shr .u64 n 16) % 256]) n 1 = _
  rw [put_round 2 _ n 1 (by decide) (by decide) (h _ (by simp)), List.append_assoc]
  show pack_put.l0 2 (l ++ [(shr .u64 n 56) % 256, (shr .u64 n 48) % 256, (shr .u64 n 40) % 256, (shr .u64 n 32) % 256, (shr .u64 n 24) % 256, (shr .u64 n 16) % 256, (shr .u64 n 8) % 256]) n 0 = _
  rw [put_round 1 _ n 0 (by decide) (by decide) (h _ (by simp)), List.append_assoc]
  exact put_stop 0 _ n
/-- Behind bytes that are put: the bytes; all blocks but those of bytes are as they were. -/
def PutPost (w0 w : World) (l : List Int) (e : Ending) (w' : World) : Prop :=
  ∃ v, e = .returned v ∧ (Kd.int .u8).R 5 w' w0.heap.size (fun _ => True) v l ∧ Below w0.heap.size w0 w' ∧ ∀ (g : Nat) (cs : Array Value) (t : TypeId), t ≠ 5 → w.heap[g]? = some (Obj.cells cs t (0, 0)) → w'.heap[g]? = some (Obj.cells cs t (0, 0))
theorem put_of (size : Int) (w0 w : World) (v : Value) (l r : List Int) (n : Int) (hB : Below w0.heap.size w0 w) (hR : (Kd.int .u8).R 5 w w0.heap.size (fun _ => True) v l) (hf : pack_put.f 9 l n size = some r) :
    Calls Try.prog 64 #[v, .int .u64 n, .int .i64 size] w (PutPost w0 w r) := by
  have hb := Kd.R_mono (ok' := fun k => ∃ cs, w.heap[k]? = some (.cells cs 5 (0, 0))) (Kd.R_bound hR) (fun k hk => by
    obtain ⟨_, _, _, q, hq, cs, hc⟩ := hk
    have : q = 5 := by
      have hE : (5 :: (Kd.int .u8).E) = [5] := rfl
      rw [hE] at hq
      exact List.mem_singleton.1 hq
    subst this
    exact ⟨cs, hc⟩)
  refine (pack_put.calls 9 _ v l n size r w0 w hB hb hf).mono ?_
  rintro e w' ⟨v', rfl, hR', hB', hK⟩
  refine ⟨v', rfl, Kd.R_mono hR' (fun _ _ => trivial), hB', fun g cs t ht hg => ?_⟩
  refine blk_kept hg hK ?_
  rintro ⟨cs', hc'⟩
  rw [hg] at hc'
  injection hc' with hc'
  injection hc' with _ h2
  exact ht h2
theorem put4_any (w0 w : World) (v : Value) (l : List Int) (n : Int) (hB : Below w0.heap.size w0 w) (hR : (Kd.int .u8).R 5 w w0.heap.size (fun _ => True) v l) (hl : l.length ≤ 50000) :
    Calls Try.prog 64 #[v, .int .u64 n, .int .i64 4] w (PutPost w0 w (l ++ put4 n)) := put_of 4 w0 w v l _ n hB hR (put_4 l n hl)
theorem put8_any (w0 w : World) (v : Value) (l : List Int) (n : Int) (hB : Below w0.heap.size w0 w) (hR : (Kd.int .u8).R 5 w w0.heap.size (fun _ => True) v l) (hl : l.length ≤ 50000) :
    Calls Try.prog 64 #[v, .int .u64 n, .int .i64 8] w (PutPost w0 w (l ++ put8 n)) := put_of 8 w0 w v l _ n hB hR (put_8 l n hl)
/-- Bytes in a block of their own. -/
theorem lit_R (W : World) (base : Nat) (xs : List Int) (hb : base ≤ W.heap.size) (hl : xs.length ≤ 1000000) :
    (Kd.int .u8).R 5 (W.alloc (.cells (xs.map (Value.int .u8)).toArray 5)) base (fun _ => True) (.slice (some ⟨W.heap.size, 0, none⟩) xs.length xs.length) xs := by
  have h2 := World.ownsRow_lit (base := base) (e := 5) (size := 1) W (xs.map (Value.int .u8)).toArray xs.length hb (by unfold maxLen; omega) (by simp)
  exact Kd.R_of_own (enc := Value.int .u8) (h1 := fun _ => rfl) (by simpa [encs] using h2) (fun _ _ => trivial)
end Go.Proofs.Ytnkkgofpifhoeaa.Pk
