/- fill: as many are sent as the window has room for. -/
import Derived.Test.YtnkkgofpifhoeaaLk5
import Derived.Deep.LoopGhost
namespace Go.Proofs.Ytnkkgofpifhoeaa.Lk
open Go.RowKit Go.Proofs.Ytnkkgofpifhoeaa.Base Go.Proofs.Ytnkkgofpifhoeaa.Steps Go.Proofs.YtnkkgofpifhoeaaW.PrintWords Go.Proofs.YtnkkgofpifhoeaaW.PrintLast
set_option linter.unusedSimpArgs false
set_option linter.unusedVariables false
/-- One signal is sent. -/
def sendOne (L : Lk) : Lk := emit_ { L with idle := if L.sent = 0 then 0 else L.idle, sent := L.sent + 1 } (dataP L L.sent)
def fillN : Nat → Lk → Lk
  | 0, L => L
  | n + 1, L => if L.sent < L.queue.length ∧ L.sent < 8 then fillN n (sendOne L) else L
def fill_ (L : Lk) : Lk := fillN ((8 - L.sent).toNat + 1) L
theorem Emits.same {w : World} {B g : Nat} {okq oko : Nat → Prop} {L : Lk} {q o : Value} (h : At w B okq oko g L q o) : Emits w B okq oko g L q w :=
  ⟨o, ⟨h.blk, h.queue, Kd.R_mono h.out (fun _ hk => .inl hk), h.low, fun k hk ho => ho.elim (h.apart k hk) (fun hn => by omega), fun k hk => (hk.elim (fun x => h.old k (.inl x)) (fun x => x.elim (fun y => h.old k (.inr y)) (fun hn => by omega)))⟩, Kept.refl _ _, Below.refl _ _⟩
theorem Emits.below {w w' w2 : World} {B g : Nat} {okq oko : Nat → Prop} {L : Lk} {q : Value} (hB : B ≤ w.heap.size) (h : Emits w B okq oko g L q w') (hb : Below w'.heap.size w' w2) : Emits w B okq oko g L q w2 := by
  obtain ⟨o, a, k1, b1⟩ := h
  have hs := k1.1
  have hs2 := hb.size
  have a2 := a.below hb
  refine ⟨o, ⟨a2.blk, a2.queue, Kd.R_mono a2.out (fun k hk => hk.elim (fun x => .inl x) (fun x => .inr ⟨x.1, by omega⟩)), a2.low, fun k hk ho => ?_, fun k hk => ?_⟩, k1.then_ (Kept.of_below hb (fun k => oko k ∨ k = g)) (fun k hk => .inl hk), b1.trans (hb.mono (by omega))⟩
  · rcases ho with ho | ho
    · exact a.apart k hk (.inl ho)
    · by_cases hkw : k < w'.heap.size
      · exact a.apart k hk (.inr ⟨ho.1, hkw⟩)
      · exact hkw (a.old k (.inl hk)).1
  · rcases hk with hk | hk | hk
    · exact a2.old k (.inl hk)
    · exact a2.old k (.inr (.inl hk))
    · have := blk_lt a.blk
      by_cases hkw : k < w'.heap.size
      · exact ⟨hk.2, (a.old k (.inr (.inr ⟨hk.1, hkw⟩))).2⟩
      · exact ⟨hk.2, by omega⟩
theorem Emits.chain {w wr wk w' : World} {B g : Nat} {okq oko : Nat → Prop} {L : Lk} {q : Value} (hq : ∀ k, okq k → k < w.heap.size) (hg : g < w.heap.size) (hBg : B ≤ g) (h2 : Kept w wr (fun k => oko k ∨ k = g)) (h3 : Below B w wr) (hat : Go.Proofs.Ytnkkgofpifhoeaa.Steps.At g wr wk) (h : Emits wk B okq (fun k => oko k ∨ w.heap.size ≤ k ∧ k < wr.heap.size) g L q w') : Emits w B okq oko g L q w' := by
  obtain ⟨o, a, k1, b1⟩ := h
  have hs := h2.1
  have hs2 := k1.1
  rw [hat.size] at a hs2
  refine ⟨o, ⟨a.blk, a.queue, Kd.R_mono a.out (fun k hk => ?_), a.low, fun k hk ho => ?_, fun k hk => ?_⟩, (h2.then_ (kept_at' hat) (fun k hk => .inl (.inr hk))).then_ k1 (fun k hk => ?_), h3.trans ((hat.below (Below.refl _ _) hBg).trans b1)⟩
  · rcases hk with (hk | hk) | hk
    · exact .inl hk
    · exact .inr ⟨hk.1, by omega⟩
    · exact .inr ⟨by omega, hk.2⟩
  · rcases ho with ho | ho
    · exact a.apart k hk (.inl (.inl ho))
    · have := hq k hk; omega
  · rcases hk with hk | hk | hk
    · exact a.old k (.inl hk)
    · exact a.old k (.inr (.inl (.inl hk)))
    · exact ⟨hk.2, by omega⟩
  · rcases hk with (hk | hk) | hk
    · exact .inl (.inl hk)
    · exact .inr hk.1
    · exact .inl (.inr hk)
theorem sent_ok {L : Lk} (h : L.Ok) (hd : L.sent < L.queue.length) (h8 : L.sent < 8) (d : Int) (hdd : 0 ≤ d ∧ d ≤ 1000) : ({ L with idle := d, sent := L.sent + 1 } : Lk).Ok := by
  have := h.sent
  exact ⟨h.own, h.phase, h.token, h.boot, h.yours, h.queue, h.rows, ⟨by show 0 ≤ L.sent + 1; omega, by show L.sent + 1 ≤ (L.queue.length : Int); omega, by show L.sent + 1 ≤ 8; omega⟩, h.base, h.expected, hdd, h.out⟩
theorem sendOne_ok {L : Lk} (h : L.Ok) (hd : L.sent < L.queue.length) (h8 : L.sent < 8) : (sendOne L).Ok := by
  refine emit_ok (sent_ok h hd h8 _ ?_) _
  split
  · omega
  · exact h.idle
theorem emit_sent (L : Lk) (p : Pkt) : (emit_ L p).sent = L.sent := by unfold emit_; split <;> rfl
theorem sendOne_sent (L : Lk) : (sendOne L).sent = L.sent + 1 := emit_sent _ _
def FR (w : World) (B : Nat) (okq oko : Nat → Prop) (g : Nat) (L : Lk) (q : Value) (n : Nat) (wr : World) : Prop := ∃ L' : Lk, n = (8 - L'.sent).toNat ∧ fillN (n + 1) L' = fill_ L ∧ L'.Ok ∧ Emits w B okq oko g L' q wr
set_option maxRecDepth 100000 in
set_option maxHeartbeats 1000000 in
theorem fill_of {w : World} {B g : Nat} {okq oko : Nat → Prop} {L : Lk} {q o : Value} (h : At w B okq oko g L q o) (hok : L.Ok) (hB : B ≤ w.heap.size) :
    Calls Try.prog 74 #[.pointer (some ⟨g, 0, none⟩)] w fun e w' => e = .returned (.tuple #[]) ∧ Emits w B okq oko g (fill_ L) q w' := by
  have H := Lib.hid h
  have OK := Lib.hid hok
  clear h hok
  go_enter Try.func74, Try.ntmps74
  go_wp2_with fail
  go_loopg [] ((8 - L.sent).toNat) (fun n wr => FR w B okq oko g L q n wr)
  case atStart => exact ⟨L, rfl, rfl, OK.out, Emits.same H.out⟩
  case round =>
    obtain ⟨L', hn, hf, hok', o', h1, h2, h3⟩ := hrel
    obtain ⟨A6, c6, hq6, hl6⟩ := Kd.Q_slice h1.queue
    have hc7 : wr.cell? ⟨g, 7, none⟩ = some (.int .i64 L'.sent) := (blk_cell h1.blk 7).trans rfl
    have hc6 : wr.cell? ⟨g, 6, none⟩ = some (.slice A6 L'.queue.length c6) := (blk_cell h1.blk 6).trans (by rw [hq6]; rfl)
    have hs := hok'.sent
    have hql := hok'.queue
    have H1 := Lib.hid h1
    have H2 := Lib.hid h2
    have H3 := Lib.hid h3
    have HF := Lib.hid hf
    have HN := Lib.hid hn
    have OK1 := Lib.hid hok'
    clear h1 h2 h3 hf hn hok' hq6 hl6
    generalize hse : L'.sent = se at *
    generalize hqn : L'.queue.length = qn at *
    have HSE := Lib.hid hse
    have hc10 : wr.cell? ⟨g, 10, none⟩ = some (.int .i64 L'.idle) := (blk_cell H1.out.blk 10).trans rfl
    have hf10 := blk_frozen H1.out.blk 10
    have hf7 := blk_frozen H1.out.blk 7
    clear hse
    by_cases hg1 : se < (qn : Int)
    · have hd1 : decide (se < (qn : Int)) = true := by simp [hg1]
      by_cases hg2 : se < 8
      · skip
        by_cases hz : se = 0
        · have hz9 : (se == 0) = true := by simp [hz]
          have HZ := Lib.hid hz
          clear hz
          have OK2 := Lib.hid (sent_ok OK1.out (by rw [HSE.out]; omega) (by rw [HSE.out]; omega) 0 (by omega))
          have HI := Lib.hid (⟨by omega, by omega⟩ : 0 ≤ se ∧ se < (L'.queue.length : Int))
          have hat0 : Go.Proofs.Ytnkkgofpifhoeaa.Steps.At g wr wr := Steps.At.refl _ _
          go_wp2_with fail
          go_quiet (fail)
          go_wp2_with (first | ((with_reducible refine gate_ (.store 3 (.tmp 29) (.const (.int .i64 0))) rfl ?_); (refine store_F (fun wz => At wz B okq (fun k => oko k ∨ w.heap.size ≤ k ∧ k < wr.heap.size) g { L' with idle := 0 } q o' ∧ Go.Proofs.Ytnkkgofpifhoeaa.Steps.At g wr wz) rfl rfl ⟨_, (by first | (go_simp; done) | (go_simp; rfl)), (H1.out.below (pw_below_drewN (Below.refl _ _) _)).put1 10 _ rfl rfl rfl, Steps.At.set (Steps.At.drewN (Steps.At.refl _ _) _) _ _⟩ (fun w_K1 hF => ?_)); (have K1 := Lib.hid hF); (clear hF); (have hk7 : World.cell? _ ⟨g, 7, none⟩ = some (.int .i64 se) := (blk_cell K1.out.1.blk 7).trans (by rw [← HSE.out]; rfl)); (have hkf7 := blk_frozen K1.out.1.blk 7)) | ((with_reducible refine gate_ (.store 3 (.tmp 36) (.tmp 34)) rfl ?_); (refine store_F (fun wz => At wz B okq (fun k => oko k ∨ w.heap.size ≤ k ∧ k < wr.heap.size) g { L' with idle := 0, sent := L'.sent + 1 } q o' ∧ Go.Proofs.Ytnkkgofpifhoeaa.Steps.At g wr wz) rfl rfl ⟨_, (by have hz1 : World.cell? _ ⟨g, 7, none⟩ = some _ := (blk_cell K1.out.1.blk 7).trans rfl; have hz2 := blk_frozen K1.out.1.blk 7; first | (go_simp; done) | (go_simp; rfl)), K1.out.1.put1 7 _ (by rw [← HSE.out]; rfl) rfl rfl, Steps.At.set K1.out.2 _ _⟩ (fun w_K2 hF => ?_)); (have K2 := Lib.hid hF); (clear hF); (have hk7 : World.cell? _ ⟨g, 7, none⟩ = some (.int .i64 (se + 1)) := (blk_cell K2.out.1.blk 7).trans (by rw [← HSE.out]; rfl))) | (go_at_call 75; (refine (data_of (i := se) K2.out.1 OK2.out (Nat.le_trans hB (by rw [K2.out.2.size]; exact H2.out.1)) HI.out.1 HI.out.2).mono ?_); (rintro e w9 ⟨rfl, hE⟩); (have HE := Lib.hid (Emits.chain (fun k hk => (H.out.old k (.inl hk)).1) (blk_lt H.out.blk) H.out.low H2.out H3.out K2.out.2 hE)); (clear hE)))
          go_roundg (gk - 1)
          case measure => have := HN.out; omega
          case rel =>
            refine ⟨sendOne L', by rw [sendOne_sent, HSE.out]; have := HN.out; omega, ?_, sendOne_ok OK1.out (by rw [HSE.out]; omega) (by rw [HSE.out]; omega), ?_⟩
            · rw [← HF.out, show gk = gk - 1 + 1 by have := HN.out; omega]
              show fillN (gk - 1 + 1) (sendOne L') = if L'.sent < L'.queue.length ∧ L'.sent < 8 then fillN (gk - 1 + 1) (sendOne L') else L'
              rw [if_pos (by rw [HSE.out]; omega)]
            · have e := HE.out
              rw [show ({ L' with idle := 0, sent := L'.sent + 1 } : Lk) = { L' with idle := if L'.sent = 0 then 0 else L'.idle, sent := L'.sent + 1 } by rw [if_pos (HSE.out.trans HZ.out)]] at e
              rw [← HSE.out] at e
              exact e
        · have hz9 : (se == 0) = false := by simp [hz]
          have HZ := Lib.hid hz
          clear hz
          have OK2 := Lib.hid (sent_ok OK1.out (by rw [HSE.out]; omega) (by rw [HSE.out]; omega) L'.idle OK1.out.idle)
          have HI := Lib.hid (⟨by omega, by omega⟩ : 0 ≤ se ∧ se < (L'.queue.length : Int))
          have hat0 : Go.Proofs.Ytnkkgofpifhoeaa.Steps.At g wr wr := Steps.At.refl _ _
          go_wp2_with fail
          go_quiet (fail)
          go_wp2_with (first | ((with_reducible refine gate_ (.store 3 (.tmp 36) (.tmp 34)) rfl ?_); (refine store_F (fun wz => At wz B okq (fun k => oko k ∨ w.heap.size ≤ k ∧ k < wr.heap.size) g { L' with sent := L'.sent + 1 } q o' ∧ Go.Proofs.Ytnkkgofpifhoeaa.Steps.At g wr wz) rfl rfl ⟨_, (by first | (go_simp; done) | (go_simp; rfl)), (H1.out.below (pw_below_drewN (Below.refl _ _) _)).put1 7 _ (by rw [← HSE.out]; rfl) rfl rfl, Steps.At.set (Steps.At.drewN (Steps.At.refl _ _) _) _ _⟩ (fun w_K2 hF => ?_)); (have K2 := Lib.hid hF); (clear hF); (have hk7 : World.cell? _ ⟨g, 7, none⟩ = some (.int .i64 (se + 1)) := (blk_cell K2.out.1.blk 7).trans (by rw [← HSE.out]; rfl))) | (go_at_call 75; (refine (data_of (i := se) K2.out.1 OK2.out (Nat.le_trans hB (by rw [K2.out.2.size]; exact H2.out.1)) HI.out.1 HI.out.2).mono ?_); (rintro e w9 ⟨rfl, hE⟩); (have HE := Lib.hid (Emits.chain (fun k hk => (H.out.old k (.inl hk)).1) (blk_lt H.out.blk) H.out.low H2.out H3.out K2.out.2 hE)); (clear hE)))
          go_roundg (gk - 1)
          case measure => have := HN.out; omega
          case rel =>
            refine ⟨sendOne L', by rw [sendOne_sent, HSE.out]; have := HN.out; omega, ?_, sendOne_ok OK1.out (by rw [HSE.out]; omega) (by rw [HSE.out]; omega), ?_⟩
            · rw [← HF.out, show gk = gk - 1 + 1 by have := HN.out; omega]
              show fillN (gk - 1 + 1) (sendOne L') = if L'.sent < L'.queue.length ∧ L'.sent < 8 then fillN (gk - 1 + 1) (sendOne L') else L'
              rw [if_pos (by rw [HSE.out]; omega)]
            · have e := HE.out
              rw [show ({ L' with sent := L'.sent + 1 } : Lk) = { L' with idle := if L'.sent = 0 then 0 else L'.idle, sent := L'.sent + 1 } by rw [if_neg (fun h => HZ.out (HSE.out.symm.trans h))]] at e
              rw [← HSE.out] at e
              exact e
      · have hd2 : decide (se < 8) = false := by simp [hg2]
        go_wp2_with fail
        go_quiet (fail)
        go_wp2_with fail
        all_goals (go_end0; (refine ⟨rfl, ?_⟩); (have hL : fill_ L = L' := by rw [← HF.out]; show (if L'.sent < L'.queue.length ∧ L'.sent < 8 then fillN gk (sendOne L') else L') = L'; rw [if_neg (by rw [HSE.out]; omega)]); (rw [hL]); exact Emits.below hB ⟨o', H1.out, H2.out, H3.out⟩ (pw_below_drewN (Below.refl _ _) _))
    · have hd1 : decide (se < (qn : Int)) = false := by simp [hg1]
      go_wp2_with fail
      go_quiet (fail)
      go_wp2_with fail
      all_goals (go_end0; (refine ⟨rfl, ?_⟩); (have hL : fill_ L = L' := by rw [← HF.out]; show (if L'.sent < L'.queue.length ∧ L'.sent < 8 then fillN gk (sendOne L') else L') = L'; rw [if_neg (by rw [HSE.out]; omega)]); (rw [hL]); exact Emits.below hB ⟨o', H1.out, H2.out, H3.out⟩ (pw_below_drewN (Below.refl _ _) _))
end Go.Proofs.Ytnkkgofpifhoeaa.Lk
