/- Tick: time goes by. -/
import Derived.Test.YtnkkgofpifhoeaaLk10
import Derived.Deep.LoopGhost
namespace Go.Proofs.Ytnkkgofpifhoeaa.Lk
open Go.RowKit Go.Proofs.Ytnkkgofpifhoeaa.Base Go.Proofs.Ytnkkgofpifhoeaa.Steps Go.Proofs.YtnkkgofpifhoeaaW.PrintWords Go.Proofs.YtnkkgofpifhoeaaW.PrintLast
set_option linter.unusedSimpArgs false
set_option linter.unusedVariables false
/-- The first n signals of the queue are sent again. -/
def sends : Nat → Lk → Lk
  | 0, L => L
  | n + 1, L => emit_ (sends n L) (dataP L n)
def rest_ (L : Lk) (d : Int) : Lk := { L with idle := d }
def tick_ (L : Lk) : Lk :=
  if L.phase = 0 then L
  else if L.phase = 2 ∧ L.sent = 0 then rest_ L 0
  else if L.idle + 1 < 3 then rest_ L (L.idle + 1)
  else if L.phase = 1 then emit_ (rest_ L 0) (helloP (rest_ L 0))
  else sends L.sent.toNat (rest_ L 0)
theorem emit_data (L : Lk) (p : Pkt) (i : Int) : dataP (emit_ L p) i = dataP L i := by unfold emit_; split <;> rfl
theorem sends_data (n : Nat) (L : Lk) (i : Int) : dataP (sends n L) i = dataP L i := by
  induction n with
  | zero => rfl
  | succ n ih => exact (emit_data _ _ _).trans ih
theorem emit_queue (L : Lk) (p : Pkt) : (emit_ L p).queue = L.queue := by unfold emit_; split <;> rfl
theorem sends_queue (n : Nat) (L : Lk) : (sends n L).queue = L.queue := by
  induction n with
  | zero => rfl
  | succ n ih => exact (emit_queue _ _).trans ih
theorem sends_ok {L : Lk} (h : L.Ok) (n : Nat) : (sends n L).Ok := by
  induction n with
  | zero => exact h
  | succ n ih => exact emit_ok ih _
theorem rest_ok {L : Lk} (h : L.Ok) {d : Int} (hd : 0 ≤ d ∧ d ≤ 1000) : (rest_ L d).Ok := ⟨h.own, h.phase, h.token, h.boot, h.yours, h.queue, h.rows, h.sent, h.base, h.expected, hd, h.out⟩
theorem tick_ok {L : Lk} (h : L.Ok) : (tick_ L).Ok := by
  have hi := h.idle
  unfold tick_
  split
  · exact h
  split
  · exact rest_ok h (by decide)
  split
  · exact rest_ok h (by omega)
  split
  · exact emit_ok (rest_ok h (by decide)) _
  · exact sends_ok (rest_ok h (by decide)) _
set_option maxRecDepth 100000 in
set_option maxHeartbeats 1000000 in
theorem tick_shut {w : World} {B g : Nat} {okq oko : Nat → Prop} {L : Lk} {q o : Value} (h : At w B okq oko g L q o) (hok : L.Ok) (hB : B ≤ w.heap.size) (hp : L.phase = 0) {own : Nat → Prop} (ho : ∀ k, holds okq oko g k → own k) :
    Calls Try.prog 33 #[.pointer (some ⟨g, 0, none⟩)] w fun e w' => e = .returned (.tuple #[]) ∧ Turns w B own g (L) w' := by
  have hl1 : w.cell? ⟨g, 1, none⟩ = some (.int .i64 L.phase) := (blk_cell h.blk 1).trans rfl
  have hl7 : w.cell? ⟨g, 7, none⟩ = some (.int .i64 L.sent) := (blk_cell h.blk 7).trans rfl
  have hl10 : w.cell? ⟨g, 10, none⟩ = some (.int .i64 L.idle) := (blk_cell h.blk 10).trans rfl
  have hs := hok.sent
  have hid := hok.idle
  have H := Lib.hid h
  have OK := Lib.hid hok
  have HOW := Lib.hid ho
  clear h hok ho
  have hd : (L.phase == 0) = true := by simp [hp]
  clear hp
  go_enter Try.func33, Try.ntmps33
  go_wp2_with (first | fail)
  all_goals ((first | go_end0 | (refine bodyPost_ret (results_none rfl _ _ _) rfl ?_)); exact ⟨rfl, Turns.same ⟨_, _, _, _, H.out, HOW.out⟩⟩)
set_option maxRecDepth 100000 in
set_option maxHeartbeats 1000000 in
theorem tick_none {w : World} {B g : Nat} {okq oko : Nat → Prop} {L : Lk} {q o : Value} (h : At w B okq oko g L q o) (hok : L.Ok) (hB : B ≤ w.heap.size) (hp : L.phase = 2) (h0 : L.sent = 0) {own : Nat → Prop} (ho : ∀ k, holds okq oko g k → own k) :
    Calls Try.prog 33 #[.pointer (some ⟨g, 0, none⟩)] w fun e w' => e = .returned (.tuple #[]) ∧ Turns w B own g (rest_ L 0) w' := by
  have hl1 : w.cell? ⟨g, 1, none⟩ = some (.int .i64 L.phase) := (blk_cell h.blk 1).trans rfl
  have hl7 : w.cell? ⟨g, 7, none⟩ = some (.int .i64 L.sent) := (blk_cell h.blk 7).trans rfl
  have hl10 : w.cell? ⟨g, 10, none⟩ = some (.int .i64 L.idle) := (blk_cell h.blk 10).trans rfl
  have hs := hok.sent
  have hid := hok.idle
  have H := Lib.hid h
  have OK := Lib.hid hok
  have HOW := Lib.hid ho
  clear h hok ho
  have hd : (L.phase == 0) = false := by simp [hp]
  have hd2 : (L.phase == 2) = true := by simp [hp]
  have hd3 : (L.sent == 0) = true := by simp [h0]
  clear hp h0
  go_enter Try.func33, Try.ntmps33
  go_wp2_with (first | ((with_reducible refine gate_ (.store 3 (.tmp 26) (.const (.int .i64 0))) rfl ?_); (refine store_F (fun wz => At wz B okq oko g (rest_ L (0)) q o ∧ Go.Proofs.Ytnkkgofpifhoeaa.Steps.At g w wz) rfl rfl ⟨_, (by have hz1 : World.cell? _ ⟨g, 10, none⟩ = some _ := (blk_cell H.out.blk 10).trans rfl; have hz2 := blk_frozen H.out.blk 10; first | (go_simp; done) | (go_simp; rfl)), H.out.put1 10 _ rfl rfl rfl, Steps.At.set (Steps.At.refl _ _) _ _⟩ (fun w_K1 hF => ?_)); (have K1 := Lib.hid hF); (clear hF)))
  all_goals ((first | go_end0 | (refine bodyPost_ret (results_none rfl _ _ _) rfl ?_)); exact ⟨rfl, ⟨⟨_, _, _, _, K1.out.1, fun k hk => .inl (HOW.out k hk)⟩, (kept_at' K1.out.2).mono (fun k hk => HOW.out k (.inr (.inr hk))), K1.out.2.below (Below.refl _ _) H.out.low⟩⟩)
set_option maxRecDepth 100000 in
set_option maxHeartbeats 1000000 in
theorem tick_wait1 {w : World} {B g : Nat} {okq oko : Nat → Prop} {L : Lk} {q o : Value} (h : At w B okq oko g L q o) (hok : L.Ok) (hB : B ≤ w.heap.size) (hp : L.phase = 1) (hi : L.idle + 1 < 3) {own : Nat → Prop} (ho : ∀ k, holds okq oko g k → own k) :
    Calls Try.prog 33 #[.pointer (some ⟨g, 0, none⟩)] w fun e w' => e = .returned (.tuple #[]) ∧ Turns w B own g (rest_ L (L.idle + 1)) w' := by
  have hl1 : w.cell? ⟨g, 1, none⟩ = some (.int .i64 L.phase) := (blk_cell h.blk 1).trans rfl
  have hl7 : w.cell? ⟨g, 7, none⟩ = some (.int .i64 L.sent) := (blk_cell h.blk 7).trans rfl
  have hl10 : w.cell? ⟨g, 10, none⟩ = some (.int .i64 L.idle) := (blk_cell h.blk 10).trans rfl
  have hs := hok.sent
  have hid := hok.idle
  have H := Lib.hid h
  have OK := Lib.hid hok
  have HOW := Lib.hid ho
  clear h hok ho
  have hd : (L.phase == 0) = false := by simp [hp]
  have hd2 : (L.phase == 2) = false := by simp [hp]
  have hd4 : decide (L.idle + 1 < 3) = true := by simp [hi]
  clear hp
  go_enter Try.func33, Try.ntmps33
  go_wp2_with (first | ((with_reducible refine gate_ (.store 3 (.tmp 33) (.tmp 31)) rfl ?_); (refine store_F (fun wz => At wz B okq oko g (rest_ L (L.idle + 1)) q o ∧ Go.Proofs.Ytnkkgofpifhoeaa.Steps.At g w wz) rfl rfl ⟨_, (by have hz1 : World.cell? _ ⟨g, 10, none⟩ = some _ := (blk_cell H.out.blk 10).trans rfl; have hz2 := blk_frozen H.out.blk 10; first | (go_simp; done) | (go_simp; rfl)), H.out.put1 10 _ rfl rfl rfl, Steps.At.set (Steps.At.refl _ _) _ _⟩ (fun w_K1 hF => ?_)); (have K1 := Lib.hid hF); (clear hF); (clear hl1 hl7 hl10); (have hl1 : w_K1.cell? ⟨g, 1, none⟩ = some (.int .i64 L.phase) := (blk_cell K1.out.1.blk 1).trans rfl); (have hl10 : w_K1.cell? ⟨g, 10, none⟩ = some (.int .i64 (L.idle + 1)) := (blk_cell K1.out.1.blk 10).trans rfl)))
  all_goals ((first | go_end0 | (refine bodyPost_ret (results_none rfl _ _ _) rfl ?_)); exact ⟨rfl, ⟨⟨_, _, _, _, K1.out.1, fun k hk => .inl (HOW.out k hk)⟩, (kept_at' K1.out.2).mono (fun k hk => HOW.out k (.inr (.inr hk))), K1.out.2.below (Below.refl _ _) H.out.low⟩⟩)
set_option maxRecDepth 100000 in
set_option maxHeartbeats 1000000 in
theorem tick_wait2 {w : World} {B g : Nat} {okq oko : Nat → Prop} {L : Lk} {q o : Value} (h : At w B okq oko g L q o) (hok : L.Ok) (hB : B ≤ w.heap.size) (hp : L.phase = 2) (h0 : ¬ L.sent = 0) (hi : L.idle + 1 < 3) {own : Nat → Prop} (ho : ∀ k, holds okq oko g k → own k) :
    Calls Try.prog 33 #[.pointer (some ⟨g, 0, none⟩)] w fun e w' => e = .returned (.tuple #[]) ∧ Turns w B own g (rest_ L (L.idle + 1)) w' := by
  have hl1 : w.cell? ⟨g, 1, none⟩ = some (.int .i64 L.phase) := (blk_cell h.blk 1).trans rfl
  have hl7 : w.cell? ⟨g, 7, none⟩ = some (.int .i64 L.sent) := (blk_cell h.blk 7).trans rfl
  have hl10 : w.cell? ⟨g, 10, none⟩ = some (.int .i64 L.idle) := (blk_cell h.blk 10).trans rfl
  have hs := hok.sent
  have hid := hok.idle
  have H := Lib.hid h
  have OK := Lib.hid hok
  have HOW := Lib.hid ho
  clear h hok ho
  have hd : (L.phase == 0) = false := by simp [hp]
  have hd2 : (L.phase == 2) = true := by simp [hp]
  have hd3 : (L.sent == 0) = false := by simp [h0]
  clear h0
  have hd4 : decide (L.idle + 1 < 3) = true := by simp [hi]
  clear hp
  go_enter Try.func33, Try.ntmps33
  go_wp2_with (first | ((with_reducible refine gate_ (.store 3 (.tmp 33) (.tmp 31)) rfl ?_); (refine store_F (fun wz => At wz B okq oko g (rest_ L (L.idle + 1)) q o ∧ Go.Proofs.Ytnkkgofpifhoeaa.Steps.At g w wz) rfl rfl ⟨_, (by have hz1 : World.cell? _ ⟨g, 10, none⟩ = some _ := (blk_cell H.out.blk 10).trans rfl; have hz2 := blk_frozen H.out.blk 10; first | (go_simp; done) | (go_simp; rfl)), H.out.put1 10 _ rfl rfl rfl, Steps.At.set (Steps.At.refl _ _) _ _⟩ (fun w_K1 hF => ?_)); (have K1 := Lib.hid hF); (clear hF); (clear hl1 hl7 hl10); (have hl1 : w_K1.cell? ⟨g, 1, none⟩ = some (.int .i64 L.phase) := (blk_cell K1.out.1.blk 1).trans rfl); (have hl10 : w_K1.cell? ⟨g, 10, none⟩ = some (.int .i64 (L.idle + 1)) := (blk_cell K1.out.1.blk 10).trans rfl)))
  all_goals ((first | go_end0 | (refine bodyPost_ret (results_none rfl _ _ _) rfl ?_)); exact ⟨rfl, ⟨⟨_, _, _, _, K1.out.1, fun k hk => .inl (HOW.out k hk)⟩, (kept_at' K1.out.2).mono (fun k hk => HOW.out k (.inr (.inr hk))), K1.out.2.below (Below.refl _ _) H.out.low⟩⟩)
set_option maxRecDepth 100000 in
set_option maxHeartbeats 1000000 in
theorem tick_hello {w : World} {B g : Nat} {okq oko : Nat → Prop} {L : Lk} {q o : Value} (h : At w B okq oko g L q o) (hok : L.Ok) (hB : B ≤ w.heap.size) (hp : L.phase = 1) (hi : ¬ L.idle + 1 < 3) {own : Nat → Prop} (ho : ∀ k, holds okq oko g k → own k) :
    Calls Try.prog 33 #[.pointer (some ⟨g, 0, none⟩)] w fun e w' => e = .returned (.tuple #[]) ∧ Turns w B own g (emit_ (rest_ L 0) (helloP (rest_ L 0))) w' := by
  have hl1 : w.cell? ⟨g, 1, none⟩ = some (.int .i64 L.phase) := (blk_cell h.blk 1).trans rfl
  have hl7 : w.cell? ⟨g, 7, none⟩ = some (.int .i64 L.sent) := (blk_cell h.blk 7).trans rfl
  have hl10 : w.cell? ⟨g, 10, none⟩ = some (.int .i64 L.idle) := (blk_cell h.blk 10).trans rfl
  have hs := hok.sent
  have hid := hok.idle
  have H := Lib.hid h
  have OK := Lib.hid hok
  have HOW := Lib.hid ho
  clear h hok ho
  have hd : (L.phase == 0) = false := by simp [hp]
  have hd2 : (L.phase == 2) = false := by simp [hp]
  have hd5 : (L.phase == 1) = true := by simp [hp]
  have hd4 : decide (L.idle + 1 < 3) = false := by simp; omega
  clear hp
  go_enter Try.func33, Try.ntmps33
  go_wp2_with (first | ((with_reducible refine gate_ (.store 3 (.tmp 33) (.tmp 31)) rfl ?_); (refine store_F (fun wz => At wz B okq oko g (rest_ L (L.idle + 1)) q o ∧ Go.Proofs.Ytnkkgofpifhoeaa.Steps.At g w wz) rfl rfl ⟨_, (by have hz1 : World.cell? _ ⟨g, 10, none⟩ = some _ := (blk_cell H.out.blk 10).trans rfl; have hz2 := blk_frozen H.out.blk 10; first | (go_simp; done) | (go_simp; rfl)), H.out.put1 10 _ rfl rfl rfl, Steps.At.set (Steps.At.refl _ _) _ _⟩ (fun w_K1 hF => ?_)); (have K1 := Lib.hid hF); (clear hF); (clear hl1 hl7 hl10); (have hl1 : w_K1.cell? ⟨g, 1, none⟩ = some (.int .i64 L.phase) := (blk_cell K1.out.1.blk 1).trans rfl); (have hl10 : w_K1.cell? ⟨g, 10, none⟩ = some (.int .i64 (L.idle + 1)) := (blk_cell K1.out.1.blk 10).trans rfl)) | ((with_reducible refine gate_ (.store 3 (.tmp 41) (.const (.int .i64 0))) rfl ?_); (refine store_F (fun wz => At wz B okq oko g (rest_ L (0)) q o ∧ Go.Proofs.Ytnkkgofpifhoeaa.Steps.At g w wz) rfl rfl ⟨_, (by have hz1 : World.cell? _ ⟨g, 10, none⟩ = some _ := (blk_cell K1.out.1.blk 10).trans rfl; have hz2 := blk_frozen K1.out.1.blk 10; first | (go_simp; done) | (go_simp; rfl)), K1.out.1.put1 10 _ rfl rfl rfl, Steps.At.set K1.out.2 _ _⟩ (fun w_K2 hF => ?_)); (have K2 := Lib.hid hF); (clear hF); (clear hl1 hl10); (have hl1 : w_K2.cell? ⟨g, 1, none⟩ = some (.int .i64 L.phase) := (blk_cell K2.out.1.blk 1).trans rfl); (have hl7 : w_K2.cell? ⟨g, 7, none⟩ = some (.int .i64 L.sent) := (blk_cell K2.out.1.blk 7).trans rfl)) | (go_at_call 73; (refine (hello_of K2.out.1 (rest_ok OK.out (by decide)) (by have := K2.out.2.size; omega)).mono ?_); (rintro e w9 ⟨rfl, hE⟩); (have HE := Lib.hid hE); (clear hE)))
  all_goals ((first | go_end0 | (refine bodyPost_ret (results_none rfl _ _ _) rfl ?_)); exact ⟨rfl, Turns.trans (⟨⟨_, _, _, _, K2.out.1, fun k hk => .inl (HOW.out k hk)⟩, (kept_at' K2.out.2).mono (fun k hk => HOW.out k (.inr (.inr hk))), K2.out.2.below (Below.refl _ _) H.out.low⟩ : Turns w B own g (rest_ L 0) w_K2) ((Emits.turns (fun k hk => .inl (HOW.out k hk)) HE.out))⟩)
set_option maxRecDepth 100000 in
set_option maxHeartbeats 1000000 in
theorem tick_again {w : World} {B g : Nat} {okq oko : Nat → Prop} {L : Lk} {q o : Value} (h : At w B okq oko g L q o) (hok : L.Ok) (hB : B ≤ w.heap.size) (hp : L.phase = 2) (h0 : ¬ L.sent = 0) (hi : ¬ L.idle + 1 < 3) {own : Nat → Prop} (ho : ∀ k, holds okq oko g k → own k) :
    Calls Try.prog 33 #[.pointer (some ⟨g, 0, none⟩)] w fun e w' => e = .returned (.tuple #[]) ∧ Turns w B own g (sends L.sent.toNat (rest_ L 0)) w' := by
  have hl1 : w.cell? ⟨g, 1, none⟩ = some (.int .i64 L.phase) := (blk_cell h.blk 1).trans rfl
  have hl7 : w.cell? ⟨g, 7, none⟩ = some (.int .i64 L.sent) := (blk_cell h.blk 7).trans rfl
  have hl10 : w.cell? ⟨g, 10, none⟩ = some (.int .i64 L.idle) := (blk_cell h.blk 10).trans rfl
  have hs := hok.sent
  have hid := hok.idle
  have H := Lib.hid h
  have OK := Lib.hid hok
  have HOW := Lib.hid ho
  clear h hok ho
  have hd : (L.phase == 0) = false := by simp [hp]
  have hd2 : (L.phase == 2) = true := by simp [hp]
  have hd3 : (L.sent == 0) = false := by simp [h0]
  have hd5 : (L.phase == 1) = false := by simp [hp]
  have hd4 : decide (L.idle + 1 < 3) = false := by simp; omega
  clear hp h0
  go_enter Try.func33, Try.ntmps33
  go_wp2_with (first | ((with_reducible refine gate_ (.store 3 (.tmp 33) (.tmp 31)) rfl ?_); (refine store_F (fun wz => At wz B okq oko g (rest_ L (L.idle + 1)) q o ∧ Go.Proofs.Ytnkkgofpifhoeaa.Steps.At g w wz) rfl rfl ⟨_, (by have hz1 : World.cell? _ ⟨g, 10, none⟩ = some _ := (blk_cell H.out.blk 10).trans rfl; have hz2 := blk_frozen H.out.blk 10; first | (go_simp; done) | (go_simp; rfl)), H.out.put1 10 _ rfl rfl rfl, Steps.At.set (Steps.At.refl _ _) _ _⟩ (fun w_K1 hF => ?_)); (have K1 := Lib.hid hF); (clear hF); (clear hl1 hl7 hl10); (have hl1 : w_K1.cell? ⟨g, 1, none⟩ = some (.int .i64 L.phase) := (blk_cell K1.out.1.blk 1).trans rfl); (have hl10 : w_K1.cell? ⟨g, 10, none⟩ = some (.int .i64 (L.idle + 1)) := (blk_cell K1.out.1.blk 10).trans rfl)) | ((with_reducible refine gate_ (.store 3 (.tmp 41) (.const (.int .i64 0))) rfl ?_); (refine store_F (fun wz => At wz B okq oko g (rest_ L (0)) q o ∧ Go.Proofs.Ytnkkgofpifhoeaa.Steps.At g w wz) rfl rfl ⟨_, (by have hz1 : World.cell? _ ⟨g, 10, none⟩ = some _ := (blk_cell K1.out.1.blk 10).trans rfl; have hz2 := blk_frozen K1.out.1.blk 10; first | (go_simp; done) | (go_simp; rfl)), K1.out.1.put1 10 _ rfl rfl rfl, Steps.At.set K1.out.2 _ _⟩ (fun w_K2 hF => ?_)); (have K2 := Lib.hid hF); (clear hF); (clear hl1 hl10); (have hl1 : w_K2.cell? ⟨g, 1, none⟩ = some (.int .i64 L.phase) := (blk_cell K2.out.1.blk 1).trans rfl); (have hl7 : w_K2.cell? ⟨g, 7, none⟩ = some (.int .i64 L.sent) := (blk_cell K2.out.1.blk 7).trans rfl)))
  go_loopg [53] L.sent.toNat (fun n v wr => ∃ i : Nat, n = L.sent.toNat - i ∧ i ≤ L.sent.toNat ∧ v = .int .i64 (i : Int) ∧ Emits w_K2 B okq oko g (sends i (rest_ L 0)) q wr)
  case atStart => exact ⟨0, rfl, Nat.zero_le _, rfl, Emits.same K2.out.1⟩
  case round =>
    obtain ⟨i, hn, hle, rfl, hE⟩ := hrel
    have HE := Lib.hid hE
    have HN := Lib.hid hn
    have HLE := Lib.hid hle
    clear hE hn hle
    by_cases hlt : (i : Int) < L.sent
    · have hd8 : decide ((i : Int) < L.sent) = true := by simp [hlt]
      have HLT := Lib.hid hlt
      obtain ⟨o', h1, h2, h3⟩ := HE.out
      have H1 := Lib.hid h1
      have H2 := Lib.hid h2
      have H3 := Lib.hid h3
      clear h1 h2 h3
      have OK3 := Lib.hid (sends_ok (rest_ok OK.out (d := 0) (by decide)) i)
      have HI1 := Lib.hid (show (i : Int) < ((sends i (rest_ L 0)).queue.length : Int) by rw [sends_queue]; show (i : Int) < (L.queue.length : Int); omega)
      go_wp2_with (go_at_call 75; (refine (data_of (i := (i : Int)) H1.out OK3.out (Nat.le_trans hB (Nat.le_trans (Nat.le_of_eq K2.out.2.size.symm) H2.out.1)) (Int.natCast_nonneg i) HI1.out).mono ?_); (rintro e w9 ⟨rfl, hE⟩); (have HE2 := Lib.hid hE); (clear hE))
      go_roundg (L.sent.toNat - (i + 1))
      case measure => have := HN.out; have := HLT.out; omega
      case rel =>
        refine ⟨i + 1, rfl, by have := HLT.out; omega, by simp, ?_⟩
        have e := Emits.chain (fun k hk => (K2.out.1.old k (.inl hk)).1) (blk_lt K2.out.1.blk) K2.out.1.low H2.out H3.out (Steps.At.refl _ _) HE2.out
        rw [sends_data] at e
        exact e
    · have hd8 : decide ((i : Int) < L.sent) = false := by simp; omega
      have HI := Lib.hid (show i = L.sent.toNat by have := HLE.out; omega)
      go_wp2_with fail
      all_goals ((first | go_end0 | (refine bodyPost_ret (results_none rfl _ _ _) rfl ?_)); exact ⟨rfl, Turns.trans (⟨⟨_, _, _, _, K2.out.1, fun k hk => .inl (HOW.out k hk)⟩, (kept_at' K2.out.2).mono (fun k hk => HOW.out k (.inr (.inr hk))), K2.out.2.below (Below.refl _ _) H.out.low⟩ : Turns w B own g (rest_ L 0) w_K2) ((Emits.turns (fun k hk => .inl (HOW.out k hk)) (HI.out ▸ HE.out)))⟩)
theorem tick_of {w : World} {B g : Nat} {own : Nat → Prop} {L : Lk} (h : End w B own g L) (hok : L.Ok) (hB : B ≤ w.heap.size) :
    Calls Try.prog 33 #[.pointer (some ⟨g, 0, none⟩)] w fun e w' => e = .returned (.tuple #[]) ∧ Turns w B own g (tick_ L) w' := by
  obtain ⟨okq, oko, q, o, h, ho⟩ := h
  have hp := hok.phase
  unfold tick_
  by_cases h0 : L.phase = 0
  · rw [if_pos h0]; exact tick_shut h hok hB h0 ho
  rw [if_neg h0]
  by_cases h2 : L.phase = 2
  · by_cases hs : L.sent = 0
    · rw [if_pos ⟨h2, hs⟩]; exact tick_none h hok hB h2 hs ho
    · rw [if_neg (fun x => hs x.2)]
      by_cases hi : L.idle + 1 < 3
      · rw [if_pos hi]; exact tick_wait2 h hok hB h2 hs hi ho
      · rw [if_neg hi, if_neg (by omega)]; exact tick_again h hok hB h2 hs hi ho
  · rw [if_neg (fun x => h2 x.1)]
    have h1 : L.phase = 1 := by omega
    by_cases hi : L.idle + 1 < 3
    · rw [if_pos hi]; exact tick_wait1 h hok hB h1 hi ho
    · rw [if_neg hi, if_pos h1]; exact tick_hello h hok hB h1 hi ho
end Go.Proofs.Ytnkkgofpifhoeaa.Lk
