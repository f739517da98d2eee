/- Two ends that are up: what so many rounds do, in plain. No program here. -/
import Derived.Test.YtnkkgofpifhoeaaLk18
namespace Go.Proofs.Ytnkkgofpifhoeaa.Lk
open Go.RowKit Go.Proofs.Ytnkkgofpifhoeaa.Pk
set_option linter.unusedSimpArgs false
set_option linter.unusedVariables false
def sq (m : Nat) : Int := IntKind.u32.wrap (4294967293 + (m : Int))
def aS (W : List (List Int)) (m s : Nat) (d : Int) (o : List Pkt) : Lk := ⟨1, 2, 1, 1, 1, true, W.drop m, (s : Int), sq m, 4294967293, d, o⟩
def bS (m : Nat) (o : List Pkt) : Lk := ⟨1, 2, 1, 1, 1, true, [], 0, 4294967293, sq m, 0, o⟩
def dP (W : List (List Int)) (j : Nat) : Pkt := ⟨2, 1, 1, 1, sq j, 4294967293, 0, 0, 0, 0, W.getD j []⟩
def aP (j : Nat) : Pkt := ⟨3, 1, 1, 1, 0, sq j, 0, 0, 0, 0, []⟩
theorem sq_add (m k : Nat) : IntKind.u32.wrap (sq m + IntKind.u32.wrap (k : Int)) = sq (m + k) := by unfold sq; simp only [wrapU]; omega
theorem sq_add' (m k : Nat) : IntKind.u32.wrap (sq m + (k : Int)) = sq (m + k) := by unfold sq; simp only [wrapU]; omega
theorem sq_sub (m : Nat) : IntKind.u32.wrap (sq (m + 1) - sq m) = 1 := by unfold sq; simp only [wrapU]; omega
theorem emit_lt {L : Lk} (h : L.out.length < 1024) (p : Pkt) : emit_ L p = { L with out := L.out ++ [p] } := by unfold emit_; rw [if_pos h]
theorem data_aS (W : List (List Int)) (m s : Nat) (d : Int) (o : List Pkt) (i : Nat) : dataP (aS W m s d o) (i : Int) = dP W (m + i) := by
  unfold dataP dP aS
  have h : (W.drop m).getD (i : Int).toNat [] = W.getD (m + i) [] := by
    rw [Int.toNat_natCast, List.getD_eq_getElem?_getD, List.getD_eq_getElem?_getD, List.getElem?_drop]
  simp only [h, sq_add]
theorem fill_no {W : List (List Int)} {m s : Nat} {d : Int} {o : List Pkt} (h : ¬ (s < W.length - m ∧ s < 8)) : fill_ (aS W m s d o) = aS W m s d o := by
  unfold fill_
  unfold fillN
  refine if_neg ?_
  intro hc
  refine h ⟨?_, ?_⟩
  · have := hc.1
    have e : (aS W m s d o).queue.length = W.length - m := List.length_drop
    have e2 : (aS W m s d o).sent = (s : Int) := rfl
    rw [e, e2] at this
    omega
  · have := hc.2
    have e2 : (aS W m s d o).sent = (s : Int) := rfl
    rw [e2] at this
    omega
theorem fillN_no (n : Nat) {W : List (List Int)} {m s : Nat} {d : Int} {o : List Pkt} (h : ¬ (s < W.length - m ∧ s < 8)) : fillN n (aS W m s d o) = aS W m s d o := by
  cases n with
  | zero => rfl
  | succ n =>
    unfold fillN
    refine if_neg (fun hc => h ⟨?_, ?_⟩)
    · have := hc.1
      have e : (aS W m s d o).queue.length = W.length - m := List.length_drop
      have e2 : (aS W m s d o).sent = (s : Int) := rfl
      rw [e, e2] at this
      omega
    · have := hc.2
      have e2 : (aS W m s d o).sent = (s : Int) := rfl
      rw [e2] at this
      omega
theorem sendOne_aS {W : List (List Int)} {m s : Nat} {o : List Pkt} (ho : o.length < 1024) : sendOne (aS W m s 0 o) = aS W m (s + 1) 0 (o ++ [dP W (m + s)]) := by
  unfold sendOne
  rw [show (aS W m s 0 o).sent = (s : Int) from rfl, data_aS]
  have e : ({ aS W m s 0 o with idle := if (s : Int) = 0 then 0 else (aS W m s 0 o).idle, sent := (s : Int) + 1 } : Lk) = aS W m (s + 1) 0 o := by
    have h1 : (if (s : Int) = 0 then (0 : Int) else (aS W m s 0 o).idle) = 0 := by split <;> rfl
    rw [h1]
    unfold aS
    simp
  rw [e, emit_lt (show (aS W m (s + 1) 0 o).out.length < 1024 from ho)]
  rfl
theorem fill_one {W : List (List Int)} {m s : Nat} {o : List Pkt} (h1 : s < W.length - m) (h2 : s < 8) (h3 : s + 1 = 8 ∨ s + 1 = W.length - m) (ho : o.length < 1024) : fill_ (aS W m s 0 o) = aS W m (s + 1) 0 (o ++ [dP W (m + s)]) := by
  unfold fill_
  unfold fillN
  have e : (aS W m s 0 o).queue.length = W.length - m := List.length_drop
  have e2 : (aS W m s 0 o).sent = (s : Int) := rfl
  rw [if_pos (by rw [e, e2]; omega), sendOne_aS ho]
  exact fillN_no _ (by omega)
/-- Behind the sends. -/
def outA (W : List (List Int)) (m k : Nat) : List Pkt := (List.range k).map (fun i => dP W (m + i))
theorem outA_len (W : List (List Int)) (m k : Nat) : (outA W m k).length = k := by simp [outA]
theorem outA_succ (W : List (List Int)) (m k : Nat) : outA W m (k + 1) = outA W m k ++ [dP W (m + k)] := by simp [outA, List.range_succ]
theorem outA_more (W : List (List Int)) (b : List Int) (m k : Nat) (h : m + k ≤ W.length) : outA (W ++ [b]) m k = outA W m k := by
  unfold outA
  refine List.map_congr_left (fun i hi => ?_)
  have : i < k := List.mem_range.1 hi
  unfold dP
  rw [List.getD_eq_getElem?_getD, List.getD_eq_getElem?_getD, List.getElem?_append_left (by omega)]
def st (W : List (List Int)) (m : Nat) : Lk := aS W m (min 8 (W.length - m)) 0 (outA W m (min 8 (W.length - m)))
theorem send_st {W : List (List Int)} {b : List Int} (hb : ¬ (b.length = 0 ∨ 1000 < b.length)) (hW : W.length < 64) : sendL (st W 0) b = st (W ++ [b]) 0 := by
  have hE : sendE (st W 0) b.length = 0 := by
    unfold sendE
    rw [if_pos (show (st W 0).phase = 2 from rfl), if_neg hb, if_neg (show ¬ 64 ≤ (st W 0).queue.length from by show ¬ 64 ≤ (W.drop 0).length; simp; omega)]
  unfold sendL
  rw [if_pos hE]
  have e : ({ st W 0 with queue := (st W 0).queue ++ [b] } : Lk) = aS (W ++ [b]) 0 (min 8 W.length) 0 (outA (W ++ [b]) 0 (min 8 W.length)) := by
    rw [outA_more W b 0 _ (by omega)]
    unfold st aS
    simp
  rw [e]
  unfold st
  simp only [List.length_append, List.length_cons, List.length_nil, Nat.sub_zero]
  by_cases h : W.length < 8
  · rw [Nat.min_eq_right (by omega), Nat.min_eq_right (by omega)]
    rw [fill_one (by simp) h (by right; simp) (by rw [outA_len]; omega)]
    rw [outA_succ]
  · rw [Nat.min_eq_left (by omega), Nat.min_eq_left (by omega)]
    exact fill_no (by omega)
theorem sendE_st (W : List (List Int)) (n : Nat) : sendE (st W 0) n = if n = 0 ∨ 1000 < n then 112 else if 64 ≤ W.length then 113 else 0 := by
  unfold sendE
  rw [if_pos (show (st W 0).phase = 2 from rfl)]
  have : (st W 0).queue.length = W.length := by show (W.drop 0).length = _; simp
  rw [this]
theorem send_st_no {W : List (List Int)} {b : List Int} (hb : (b.length = 0 ∨ 1000 < b.length) ∨ 64 ≤ W.length) : sendL (st W 0) b = st W 0 := by
  unfold sendL
  refine if_neg ?_
  rw [sendE_st]
  by_cases h : b.length = 0 ∨ 1000 < b.length
  · rw [if_pos h]; decide
  · rw [if_neg h, if_pos (hb.resolve_left h)]; decide
/-- Three ticks send again. -/
theorem sends_aS (k : Nat) (W : List (List Int)) (m s : Nat) (d : Int) (hk : k ≤ 1024) : sends k (aS W m s d []) = aS W m s d (outA W m k) := by
  induction k with
  | zero => rfl
  | succ k ih =>
    have h := ih (by omega)
    unfold sends
    rw [h, data_aS, emit_lt (show (outA W m k).length < 1024 by rw [outA_len]; omega), outA_succ]
    rfl
theorem ticks_st (W : List (List Int)) : tick_ (tick_ (tick_ (outL (st W 0)))) = st W 0 := by
  have e0 : outL (st W 0) = aS W 0 (min 8 (W.length - 0)) 0 [] := rfl
  rw [e0]
  unfold st
  generalize hs : min 8 (W.length - 0) = s
  have t : ∀ d, tick_ (aS W 0 s d []) = if s = 0 then aS W 0 s 0 [] else if d + 1 < 3 then aS W 0 s (d + 1) [] else aS W 0 s 0 (outA W 0 s) := by
    intro d
    unfold tick_
    rw [if_neg (show ¬ (aS W 0 s d []).phase = 0 by show ¬ (2 : Int) = 0; decide)]
    by_cases h0 : s = 0
    · rw [if_pos (show (aS W 0 s d []).phase = 2 ∧ (aS W 0 s d []).sent = 0 from ⟨rfl, by show (s : Int) = 0; omega⟩), if_pos h0]
      rfl
    · rw [if_neg (show ¬ ((aS W 0 s d []).phase = 2 ∧ (aS W 0 s d []).sent = 0) from fun x => by have : (s : Int) = 0 := x.2; omega), if_neg h0]
      by_cases h1 : d + 1 < 3
      · rw [if_pos (show (aS W 0 s d []).idle + 1 < 3 from h1), if_pos h1]
        rfl
      · rw [if_neg (show ¬ (aS W 0 s d []).idle + 1 < 3 from h1), if_neg h1, if_neg (show ¬ (aS W 0 s d []).phase = 1 by show ¬ (2 : Int) = 1; decide)]
        exact sends_aS s W 0 s 0 (by omega)
  by_cases h0 : s = 0
  · rw [t, if_pos h0, t, if_pos h0, t, if_pos h0]
    subst h0
    rfl
  · rw [t, if_neg h0, if_pos (by decide), t, if_neg h0, if_pos (by decide), t, if_neg h0, if_neg (by decide)]
/-- The other end takes a signal. -/
theorem take_b {W : List (List Int)} {m : Nat} {o : List Pkt} (ho : o.length < 1024) : takeF (bS m o) 1 (dP W m) = (bS (m + 1) (o ++ [aP (m + 1)]), ⟨true, false, false, W.getD m []⟩) := by
  unfold takeF
  have hag : ageF (bS m o) 1 (dP W m).mine = 0 := by
    show ageF (bS m o) 1 1 = 0
    unfold ageF
    rw [if_neg (show ¬ (1 : Int) < (bS m o).boot by show ¬ (1 : Int) < 1; decide), if_pos (show (1 : Int) = (bS m o).boot from rfl), if_neg (show ¬ (1 : Int) < (bS m o).yours by show ¬ (1 : Int) < 1; decide), if_pos (show (1 : Int) = (bS m o).yours from rfl)]
  rw [if_neg (show ¬ ((bS m o).phase = 0 ∨ ageF (bS m o) 1 (dP W m).mine = -1) by rw [hag]; show ¬ ((2 : Int) = 0 ∨ (0 : Int) = -1); decide),
    if_neg (show ¬ (dP W m).kind = 1 by show ¬ (2 : Int) = 1; decide), if_pos (show (bS m o).phase = 2 ∧ ageF (bS m o) 1 (dP W m).mine = 0 ∧ meantF (bS m o) (dP W m) = true from ⟨rfl, hag, by show decide ((1 : Int) = 1 ∧ (1 : Int) = 1) = true; decide⟩)]
  have hM : upM (bS m o) (dP W m) = bS (m + 1) o := by
    unfold upM
    rw [if_pos (show (dP W m).kind = 2 ∧ (dP W m).seq = (bS m o).expected from ⟨rfl, rfl⟩)]
    unfold bumpL bS
    have := sq_add' m 1
    simp only [Int.natCast_one] at this
    simp only [this]
  have hK : ackK (bS m o) (dP W m) = 0 := by
    unfold ackK
    show (IntKind.u32.wrap (4294967293 - 4294967293)).toNat = 0
    decide
  have hN : upN (bS m o) (dP W m) = bS (m + 1) o := by
    unfold upN
    rw [hK, if_neg (by omega), hM]
  have hL : upL (bS m o) (dP W m) = bS (m + 1) (o ++ [aP (m + 1)]) := by
    unfold upL
    rw [if_pos (show (dP W m).kind = 2 from rfl), hN, emit_lt (show (bS (m + 1) o).out.length < 1024 from ho)]
    rfl
  have hBd : upB (bS m o) (dP W m) = W.getD m [] := by
    unfold upB
    rw [if_pos (show (dP W m).kind = 2 ∧ (dP W m).seq = (bS m o).expected from ⟨rfl, rfl⟩)]
    rfl
  rw [hL, hBd]
/-- An end takes an acknowledgement of the oldest one. -/
theorem take_a {W : List (List Int)} {m : Nat} {o : List Pkt} (hm : m < W.length) (ho : o.length < 1024) :
    (takeF (aS W m (min 8 (W.length - m)) 0 o) 1 (aP (m + 1))).1 = aS W (m + 1) (min 8 (W.length - (m + 1))) 0 (o ++ if m + 8 < W.length then [dP W (m + 8)] else []) := by
  generalize hs : min 8 (W.length - m) = s
  unfold takeF
  have hag : ageF (aS W m s 0 o) 1 (aP (m + 1)).mine = 0 := by
    show ageF (aS W m s 0 o) 1 1 = 0
    unfold ageF
    rw [if_neg (show ¬ (1 : Int) < (aS W m s 0 o).boot by show ¬ (1 : Int) < 1; decide), if_pos (show (1 : Int) = (aS W m s 0 o).boot from rfl), if_neg (show ¬ (1 : Int) < (aS W m s 0 o).yours by show ¬ (1 : Int) < 1; decide), if_pos (show (1 : Int) = (aS W m s 0 o).yours from rfl)]
  rw [if_neg (show ¬ ((aS W m s 0 o).phase = 0 ∨ ageF (aS W m s 0 o) 1 (aP (m + 1)).mine = -1) by rw [hag]; show ¬ ((2 : Int) = 0 ∨ (0 : Int) = -1); decide),
    if_neg (show ¬ (aP (m + 1)).kind = 1 by show ¬ (3 : Int) = 1; decide), if_pos (show (aS W m s 0 o).phase = 2 ∧ ageF (aS W m s 0 o) 1 (aP (m + 1)).mine = 0 ∧ meantF (aS W m s 0 o) (aP (m + 1)) = true from ⟨rfl, hag, by show decide ((1 : Int) = 1 ∧ (1 : Int) = 1) = true; decide⟩)]
  show upL (aS W m s 0 o) (aP (m + 1)) = _
  have hM : upM (aS W m s 0 o) (aP (m + 1)) = aS W m s 0 o := by
    unfold upM
    rw [if_neg (show ¬ ((aP (m + 1)).kind = 2 ∧ _) from fun x => by have : (3 : Int) = 2 := x.1; exact absurd this (by decide))]
  have hK : ackK (aS W m s 0 o) (aP (m + 1)) = 1 := by
    unfold ackK
    show (IntKind.u32.wrap (sq (m + 1) - sq m)).toNat = 1
    rw [sq_sub]
    rfl
  have hC : cutL (aS W m s 0 o) 1 = aS W (m + 1) (s - 1) 0 o := by
    unfold cutL aS
    have h1 := sq_add' m 1
    have h2 : ((s : Int) - (1 : Nat)) = ((s - 1 : Nat) : Int) := by omega
    simp only [h1, h2, List.drop_drop]
  unfold upL
  rw [if_neg (show ¬ (aP (m + 1)).kind = 2 by show ¬ (3 : Int) = 2; decide)]
  unfold upN
  rw [hK, hM, if_pos (show 1 ≤ 1 ∧ ((1 : Nat) : Int) ≤ (aS W m s 0 o).sent from ⟨Nat.le_refl _, by show ((1 : Nat) : Int) ≤ (s : Int); omega⟩), hC]
  by_cases h8 : m + 8 < W.length
  · rw [if_pos h8]
    have e1 : s - 1 = 7 := by omega
    have e2 : min 8 (W.length - (m + 1)) = 8 := by omega
    rw [e1, e2, fill_one (by omega) (by omega) (by omega) ho, show m + 1 + 7 = m + 8 by omega]
  · rw [if_neg h8, List.append_nil]
    have e2 : min 8 (W.length - (m + 1)) = s - 1 := by omega
    rw [e2]
    exact fill_no (by omega)
def acks (m k : Nat) : List Pkt := (List.range k).map (fun i => aP (m + 1 + i))
theorem acks_succ (m k : Nat) : acks m (k + 1) = acks m k ++ [aP (m + 1 + k)] := by simp [acks, List.range_succ]
theorem acks_len (m k : Nat) : (acks m k).length = k := by simp [acks]
theorem feed_append (b : Int) (L : Lk) (ps qs : List Pkt) : feed b L (ps ++ qs) = feed b (feed b L ps) qs := by unfold feed; rw [List.foldl_append]
theorem feed_one (b : Int) (L : Lk) (p : Pkt) : feed b L [p] = (takeF L b p).1 := rfl
theorem feed_b (W : List (List Int)) (m k : Nat) (hk : k ≤ 1024) : feed 1 (bS m []) (outA W m k) = bS (m + k) (acks m k) := by
  induction k with
  | zero => rfl
  | succ k ih =>
    rw [outA_succ, feed_append, ih (by omega), feed_one, take_b (by rw [acks_len]; omega), acks_succ, show m + k + 1 = m + 1 + k by omega, show m + (k + 1) = m + 1 + k by omega]
theorem outA_take (W : List (List Int)) (m s k : Nat) (hk : k ≤ s) : (outA W m s).take k = outA W m k := by
  unfold outA
  rw [← List.map_take, List.take_range, Nat.min_eq_left hk]
theorem outA_get (W : List (List Int)) (m s k : Nat) (hk : k < s) : (outA W m s).getD k nilP = dP W (m + k) := by
  unfold outA
  rw [List.getD_eq_getElem?_getD, List.getElem?_map, List.getElem?_range hk]
  rfl
theorem feed_a (W : List (List Int)) (m j : Nat) (hj : j ≤ min 8 (W.length - m)) : feed 1 (aS W m (min 8 (W.length - m)) 0 []) (acks m j) = aS W (m + j) (min 8 (W.length - (m + j))) 0 (outA W (m + 8) (min j (W.length - (m + 8)))) := by
  induction j with
  | zero => rw [Nat.zero_min]; rfl
  | succ j ih =>
    rw [acks_succ, feed_append, ih (by omega), feed_one, show m + 1 + j = m + j + 1 by omega, take_a (by omega) (by rw [outA_len]; omega)]
    by_cases h : m + j + 8 < W.length
    · rw [if_pos h, show m + j + 8 = m + 8 + j by omega, show min j (W.length - (m + 8)) = j by omega, ← outA_succ, show min (j + 1) (W.length - (m + 8)) = j + 1 by omega]
      rfl
    · rw [if_neg h, List.append_nil, show min j (W.length - (m + 8)) = min (j + 1) (W.length - (m + 8)) by omega]
      rfl
theorem round_st (W : List (List Int)) (m : Nat) : swapF (st W m) (bS m []) = (st W (m + min 8 (W.length - m)), bS (m + min 8 (W.length - m)) []) := by
  generalize hs : min 8 (W.length - m) = s
  have h1 : (st W m).out = outA W m s := by subst hs; rfl
  have h2 : outL (st W m) = aS W m (min 8 (W.length - m)) 0 [] := rfl
  unfold swapF
  rw [h1, feed_b W m s (by omega), h2]
  have h3 : (bS (m + s) (acks m s)).out = acks m s := rfl
  rw [h3, feed_a W m s (by omega)]
  have h4 : outA W (m + 8) (min s (W.length - (m + 8))) = outA W (m + s) (min 8 (W.length - (m + s))) := by
    by_cases h : s = 8
    · subst h; rfl
    · rw [show min s (W.length - (m + 8)) = 0 by omega, show min 8 (W.length - (m + s)) = 0 by omega]
      rfl
  rw [h4]
  rfl
def pos (n i : Nat) : Nat := min (8 * i) n
theorem pos_succ (n i : Nat) : pos n (i + 1) = pos n i + min 8 (n - pos n i) := by unfold pos; omega
end Go.Proofs.Ytnkkgofpifhoeaa.Lk
