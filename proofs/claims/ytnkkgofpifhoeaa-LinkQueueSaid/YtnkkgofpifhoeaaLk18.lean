/- What an end keeps to, so that each packet that it emits is one that pack.Check lets by. No program here. -/
import Derived.Test.YtnkkgofpifhoeaaLk17
namespace Go.Proofs.Ytnkkgofpifhoeaa.Lk
open Go.RowKit Go.Proofs.Ytnkkgofpifhoeaa.Pk Go.Proofs.Ytnkkgofpifhoeaa.Flt
set_option linter.unusedSimpArgs false
set_option linter.unusedVariables false
structure Lk.Fine (L : Lk) : Prop where
  ok : L.Ok
  own : 0 < L.own
  good : ∀ p ∈ L.out, p.Good
  tok : L.phase ≠ 0 → 0 < L.token
  peer : L.known = true → 0 < L.boot ∧ 0 < L.yours
  up : L.phase = 2 → L.known = true
  full : ∀ r ∈ L.queue, 0 < r.length
  idleq : L.phase ≠ 2 → L.queue = []
theorem nul0 : (nul 0 && nul 0) = true := by decide
theorem good_cases {p : Pkt} (h : p.Good) : 0 < p.mine ∧ (p.kind = 2 → 0 < p.body.length) := by
  have hc := h.check
  have hm := h.rng.mine
  unfold checkP at hc
  split at hc
  · rename_i hk
    split at hc
    · rename_i hg
      have : p.mine ≠ 0 := by
        unfold good1 at hg
        simp only [Bool.and_eq_true, decide_eq_true_eq] at hg
        exact hg.1.1
      exact ⟨by omega, fun h => by omega⟩
    · exact absurd hc (by decide)
  split at hc
  · split at hc
    · exact absurd hc (by decide)
    · split at hc
      · rename_i hg
        unfold good2 at hg
        simp only [Bool.and_eq_true, decide_eq_true_eq] at hg
        have := hg.1.1
        exact ⟨by omega, fun _ => hg.1.2.2.2.1⟩
      · exact absurd hc (by decide)
  split at hc
  · split at hc
    · rename_i hg
      unfold good3 at hg
      simp only [Bool.and_eq_true, decide_eq_true_eq] at hg
      have := hg.1.1
      exact ⟨by omega, fun h => by omega⟩
    · exact absurd hc (by decide)
  split at hc
  · split at hc
    · rename_i hg
      unfold good4 at hg
      simp only [Bool.and_eq_true, decide_eq_true_eq] at hg
      have := hg.2.1
      exact ⟨by omega, fun h => by omega⟩
    · exact absurd hc (by decide)
  · exact absurd hc (by decide)
theorem rng_of {L : Lk} (h : L.Ok) {k s a : Int} {b : List Int} (hs : 0 ≤ s ∧ s < 4294967296) (ha : 0 ≤ a ∧ a < 4294967296) {x y : Int} (hx : 0 ≤ x ∧ x < 4294967296) (hy : 0 ≤ y ∧ y < 4294967296) : (⟨k, L.token, x, y, s, a, 0, 0, 0, 0, b⟩ : Pkt).Rng :=
  ⟨h.token, hx, hy, hs, ha, show (0 : Nat) < 18446744073709551616 by decide, show (0 : Nat) < 18446744073709551616 by decide⟩
theorem hello_good {L : Lk} (h : L.Fine) (hp : L.phase ≠ 0) : (helloP L).Good := by
  have ht := h.tok hp
  have hb := h.ok.boot
  have hy := h.ok.yours
  refine ⟨rng_of h.ok (by show 0 ≤ (if L.phase = 2 then (1 : Int) else 0) ∧ _; split <;> decide) (by decide) (by show 0 ≤ (if L.known = true then L.boot else 0) ∧ _; split <;> omega) (by show 0 ≤ (if L.known = true then L.yours else 0) ∧ _; split <;> omega), ?_, Nat.zero_le _⟩
  show checkP 1 L.token (if L.known = true then L.boot else 0) (if L.known = true then L.yours else 0) (if L.phase = 2 then (1 : Int) else 0) 0 0 0 0 0 0 = 0
  unfold checkP
  rw [if_pos rfl]
  refine if_pos ?_
  unfold good1
  rw [Bool.and_eq_true]
  refine ⟨decide_eq_true ⟨by omega, by split <;> decide, ?_, rfl, rfl, rfl, rfl⟩, nul0⟩
  split
  · rename_i hk
    have := h.peer hk
    exact ⟨fun _ => this.2, fun _ => this.1⟩
  · exact ⟨fun h => h, fun h => h⟩
theorem data_good {L : Lk} (h : L.Fine) (hp : L.phase = 2) (i : Int) (hi0 : 0 ≤ i) (hi : i < L.queue.length) : (dataP L i).Good := by
  have ht := h.tok (by omega)
  have hk := h.peer (h.up hp)
  have hr : L.queue.getD i.toNat [] ∈ L.queue := by
    rw [List.getD_eq_getElem?_getD, List.getElem?_eq_getElem (by omega)]
    exact List.getElem_mem _
  have h1 := h.ok.rows _ hr
  have h2 := h.full _ hr
  refine ⟨rng_of h.ok (wrap32 _) h.ok.expected h.ok.boot h.ok.yours, ?_, h1⟩
  show checkP 2 L.token L.boot L.yours _ L.expected 0 0 0 0 (L.queue.getD i.toNat []).length = 0
  unfold checkP
  rw [if_neg (by decide), if_pos rfl, if_neg (by omega)]
  refine if_pos ?_
  unfold good2
  rw [Bool.and_eq_true]
  exact ⟨decide_eq_true ⟨by omega, hk.1, hk.2, h2, rfl, rfl⟩, nul0⟩
theorem ack_good {L : Lk} (h : L.Fine) (hp : L.phase = 2) : (ackP L).Good := by
  have ht := h.tok (by omega)
  have hk := h.peer (h.up hp)
  refine ⟨rng_of h.ok (by decide) h.ok.expected h.ok.boot h.ok.yours, ?_, Nat.zero_le _⟩
  show checkP 3 L.token L.boot L.yours 0 L.expected 0 0 0 0 0 = 0
  unfold checkP
  rw [if_neg (by decide), if_neg (by decide), if_pos rfl]
  refine if_pos ?_
  unfold good3
  rw [Bool.and_eq_true]
  exact ⟨decide_eq_true ⟨by omega, hk.1, hk.2, rfl, rfl, rfl, rfl⟩, nul0⟩
theorem new_fine {own : Int} (ho : 0 < own ∧ own < 4294967296) : (newL own).Fine :=
  ⟨newL_ok own ho, ho.1, fun p hp => (by cases hp), fun h => absurd rfl h, fun h => (by cases h), fun h => (by cases h), fun r hr => (by cases hr), fun _ => rfl⟩
theorem emit_fine {L : Lk} (h : L.Fine) {p : Pkt} (hp : p.Good) : (emit_ L p).Fine := by
  have hok := emit_ok h.ok p
  unfold emit_ at hok ⊢
  split
  · rename_i hc
    rw [if_pos hc] at hok
    refine ⟨hok, h.own, fun q hq => ?_, h.tok, h.peer, h.up, h.full, h.idleq⟩
    rcases List.mem_append.1 hq with hq | hq
    · exact h.good q hq
    · rw [List.mem_singleton.1 hq]; exact hp
  · exact h
theorem emit_phase (L : Lk) (p : Pkt) : (emit_ L p).phase = L.phase := by unfold emit_; split <;> rfl
theorem begin_fine {L : Lk} (h : L.Fine) (ht : L.token < 4294967295) : (begin_ L).Fine := by
  have := h.ok.token
  exact ⟨begin_ok h.ok ht, h.own, h.good, fun _ => by show 0 < L.token + 1; omega, fun x => (by cases x), fun x => absurd (show (1 : Int) = 2 from x) (by decide), fun r hr => (by cases hr), fun _ => rfl⟩
theorem open_fine {L : Lk} (h : L.Fine) : (openL L).Fine := by
  have := h.ok.token
  unfold openL
  split
  · rename_i hc
    have hb := begin_fine h (by omega)
    exact emit_fine hb (hello_good hb (show (1 : Int) ≠ 0 by decide))
  · exact h
theorem shut_fine {L : Lk} (h : L.Fine) : (shut_ L).Fine :=
  ⟨shut_ok h.ok, h.own, h.good, fun x => absurd rfl x, fun x => (by cases x), fun x => absurd (show (0 : Int) = 2 from x) (by decide), fun r hr => (by cases hr), fun _ => rfl⟩
theorem out_fine {L : Lk} (h : L.Fine) : (outL L).Fine := ⟨outL_ok h.ok, h.own, fun p hp => (by cases hp), h.tok, h.peer, h.up, h.full, h.idleq⟩
theorem sent_fine {L : Lk} (h : L.Fine) (hd : L.sent < L.queue.length) (h8 : L.sent < 8) (d : Int) (hdd : 0 ≤ d ∧ d ≤ 1000) : ({ L with idle := d, sent := L.sent + 1 } : Lk).Fine :=
  ⟨sent_ok h.ok hd h8 d hdd, h.own, h.good, h.tok, h.peer, h.up, h.full, h.idleq⟩
theorem up_of_queue {L : Lk} (h : L.Fine) (hd : L.sent < L.queue.length) : L.phase = 2 := by
  have := h.ok.sent
  by_cases hp : L.phase = 2
  · exact hp
  · rw [h.idleq hp] at hd; exact absurd hd (by simp; omega)
theorem sendOne_fine {L : Lk} (h : L.Fine) (hd : L.sent < L.queue.length) (h8 : L.sent < 8) : (sendOne L).Fine := by
  have hs := h.ok.sent
  have hu := up_of_queue h hd
  have hf := sent_fine h hd h8 (if L.sent = 0 then 0 else L.idle) (by have := h.ok.idle; split <;> omega)
  exact emit_fine hf (data_good h hu L.sent hs.1 hd)
theorem fillN_fine (n : Nat) {L : Lk} (h : L.Fine) : (fillN n L).Fine := by
  induction n generalizing L with
  | zero => exact h
  | succ n ih =>
    unfold fillN
    split
    · rename_i hc; exact ih (sendOne_fine h hc.1 hc.2)
    · exact h
theorem fill_fine {L : Lk} (h : L.Fine) : (fill_ L).Fine := fillN_fine _ h
theorem sendL_fine {L : Lk} (h : L.Fine) (body : List Int) : (sendL L body).Fine := by
  unfold sendL
  split
  · rename_i hc
    have hx : L.phase = 2 ∧ ¬ (body.length = 0 ∨ 1000 < body.length) ∧ L.queue.length < 64 := by
      unfold sendE at hc
      split at hc
      · split at hc
        · exact absurd hc (by decide)
        · split at hc
          · exact absurd hc (by decide)
          · rename_i a b c; exact ⟨a, b, by omega⟩
      · exact absurd hc (by decide)
    refine fill_fine ⟨sendq_ok h.ok (by omega) hx.2.2, h.own, h.good, h.tok, h.peer, h.up, fun r hr => ?_, fun hp => absurd hx.1 hp⟩
    rcases List.mem_append.1 hr with hr | hr
    · exact h.full r hr
    · rw [List.mem_singleton.1 hr]; omega
  · exact h
theorem rest_fine {L : Lk} (h : L.Fine) {d : Int} (hd : 0 ≤ d ∧ d ≤ 1000) : (rest_ L d).Fine := ⟨rest_ok h.ok hd, h.own, h.good, h.tok, h.peer, h.up, h.full, h.idleq⟩
theorem sends_fine {L : Lk} (h : L.Fine) (n : Nat) (hn : (n : Int) ≤ L.sent) : (sends n L).Fine := by
  have hs := h.ok.sent
  induction n with
  | zero => exact h
  | succ n ih => exact emit_fine (ih (by omega)) (data_good h (by
      by_cases hp : L.phase = 2
      · exact hp
      · have := h.idleq hp; rw [this] at hs; simp at hs; omega) n (by omega) (by omega))
theorem tick_fine {L : Lk} (h : L.Fine) : (tick_ L).Fine := by
  have hi := h.ok.idle
  have hs := h.ok.sent
  unfold tick_
  split
  · exact h
  split
  · exact rest_fine h (by decide)
  split
  · exact rest_fine h (by omega)
  split
  · rename_i h0 _ _ _
    exact emit_fine (rest_fine h (by decide)) (hello_good (rest_fine h (by decide)) h0)
  · exact sends_fine (rest_fine h (by decide)) _ (by show (L.sent.toNat : Int) ≤ L.sent; omega)
theorem peer_fine {L : Lk} (h : L.Fine) (hq : L.queue = []) {b : Int} (hb : 0 < b ∧ b < 4294967296) {p : Pkt} (hp : p.Good) : (peerL L b p).Fine :=
  ⟨peer_ok h.ok (by omega) hp.rng.mine true, h.own, h.good, h.tok, fun _ => ⟨hb.1, (good_cases hp).1⟩, fun _ => rfl, h.full, h.idleq⟩
theorem bump_fine {L : Lk} (h : L.Fine) : (bumpL L).Fine := ⟨bump_ok h.ok, h.own, h.good, h.tok, h.peer, h.up, h.full, h.idleq⟩
theorem cut_fine {L : Lk} (h : L.Fine) {k : Nat} (hk : (k : Int) ≤ L.sent) : (cutL L k).Fine :=
  ⟨cut_ok h.ok hk, h.own, h.good, h.tok, h.peer, h.up, fun r hr => h.full r (List.mem_of_mem_drop hr), fun hp => by show L.queue.drop k = []; rw [h.idleq hp]; simp⟩
theorem fillN_phase (n : Nat) (L : Lk) : (fillN n L).phase = L.phase := by
  induction n generalizing L with
  | zero => rfl
  | succ n ih =>
    unfold fillN
    split
    · rw [ih]; exact emit_phase _ _
    · rfl
theorem upM_fine {L : Lk} (h : L.Fine) (p : Pkt) : (upM L p).Fine := by unfold upM; split; exact bump_fine h; exact h
theorem upM_sent (L : Lk) (p : Pkt) : (upM L p).sent = L.sent := by unfold upM; split <;> rfl
theorem upM_phase (L : Lk) (p : Pkt) : (upM L p).phase = L.phase := by unfold upM; split <;> rfl
theorem upN_phase (L : Lk) (p : Pkt) : (upN L p).phase = L.phase := by
  unfold upN
  split
  · exact (fillN_phase _ _).trans (upM_phase L p)
  · exact upM_phase L p
theorem upN_fine {L : Lk} (h : L.Fine) (p : Pkt) : (upN L p).Fine := by
  unfold upN
  split
  · rename_i hc; exact fill_fine (cut_fine (upM_fine h p) (by rw [upM_sent]; exact hc.2))
  · exact upM_fine h p
theorem take_fine {L : Lk} (h : L.Fine) {b : Int} (hb : 0 < b ∧ b < 4294967296) {p : Pkt} (hp : p.Good) : (takeF L b p).1.Fine := by
  have ht := h.ok.token
  have hph := h.ok.phase
  unfold takeF
  split
  · exact h
  rename_i h0
  split
  · split
    · rename_i h1
      have hq := h.idleq (by omega)
      have hf := peer_fine h hq hb hp
      split
      · have hf2 : ({ peerL L b p with phase := 2 } : Lk).Fine := ⟨phase_ok hf.ok (by decide), hf.own, hf.good, fun _ => hf.tok (by show L.phase ≠ 0; omega), hf.peer, fun _ => rfl, hf.full, fun x => absurd rfl x⟩
        exact emit_fine hf2 (hello_good hf2 (show (2 : Int) ≠ 0 by decide))
      · exact emit_fine hf (hello_good hf (show L.phase ≠ 0 by omega))
    · split
      · show (if p.seq = 0 then emit_ L (helloP L) else L).Fine
        split
        · exact emit_fine h (hello_good h (fun x => h0 (.inl x)))
        · exact h
      · split
        · exact shut_fine h
        · rename_i hmx
          have hf := peer_fine (begin_fine h (by omega)) rfl hb hp
          exact emit_fine hf (hello_good hf (show (1 : Int) ≠ 0 by decide))
  · split
    · rename_i hu
      show (upL L p).Fine
      unfold upL
      split
      · exact emit_fine (upN_fine h p) (ack_good (upN_fine h p) ((upN_phase L p).trans hu.1))
      · exact upN_fine h p
    · exact h
theorem feed_fine {b : Int} (hb : 0 < b ∧ b < 4294967296) {ps : List Pkt} (hp : ∀ p ∈ ps, p.Good) {L : Lk} (h : L.Fine) : (feed b L ps).Fine := by
  induction ps generalizing L with
  | nil => exact h
  | cons p ps ih => exact ih (fun q hq => hp q (List.mem_cons_of_mem _ hq)) (take_fine h hb (hp p (List.mem_cons_self)))
theorem swap_fine {A D : Lk} (hA : A.Fine) (hD : D.Fine) : (swapF A D).1.Fine ∧ (swapF A D).2.Fine := by
  have h1 := feed_fine (b := 1) (by decide) hA.good hD
  exact ⟨feed_fine (by decide) h1.good (out_fine hA), out_fine h1⟩
end Go.Proofs.Ytnkkgofpifhoeaa.Lk
