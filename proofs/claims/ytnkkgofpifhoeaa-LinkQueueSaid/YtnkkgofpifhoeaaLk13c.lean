/- Take, path by path. -/
import Derived.Test.YtnkkgofpifhoeaaLk12
import Derived.Test.YtnkkgofpifhoeaaJmp
import Derived.Test.YtnkkgofpifhoeaaWGuard
namespace Go.Proofs.Ytnkkgofpifhoeaa.Lk
open Go.RowKit Go.Proofs.Ytnkkgofpifhoeaa.Base Go.Proofs.Ytnkkgofpifhoeaa.Steps Go.Proofs.Ytnkkgofpifhoeaa.Pk Go.Proofs.Ytnkkgofpifhoeaa.Jmp Go.Proofs.YtnkkgofpifhoeaaW.PrintWords Go.Proofs.YtnkkgofpifhoeaaW.PrintLast
set_option linter.unusedSimpArgs false
set_option linter.unusedVariables false
set_option maxRecDepth 100000 in
set_option maxHeartbeats 4000000 in
theorem take_up11a {w : World} {B g : Nat} {okq oko S : Nat → Prop} {L : Lk} {q o : Value} (h : At w B okq oko g L q o) (hok : L.Ok) (hS : ∀ k, holds okq oko g k → S k) (hB : B ≤ w.heap.size) (boot : Int) (p : Pkt) (Ab : Option Addr) (cb : Nat)
    (hb0 : boot ≠ 0) (hbr : 0 ≤ boot ∧ boot < 4294967296) (hpr : p.Rng) (hck : checkP p.kind p.mine p.boot p.yours p.seq p.ack p.stamp p.echo p.zr p.zi p.body.length = 0)  (hph : L.phase = 2) (hag : ageF L boot p.mine = 0) (hmn : meantF L p = true) (hpl : p.body.length ≤ 1000) {okp : Nat → Prop} (hR : (Kd.int .u8).R 5 w B okp (.slice Ab p.body.length cb) p.body) (hkp : ∀ k, okp k → ¬ S k) (kn : Nat) (hkk : IntKind.u32.wrap (p.ack - L.base) = kn) (hkd : p.kind = 2) (hsq : p.seq = L.expected) (h1k : 1 ≤ kn) (hks : (kn : Int) ≤ L.sent) :
    Calls Try.prog 34 #[.pointer (some ⟨g, 0, none⟩), .int .u32 boot, .agg #[.int .i64 p.kind, .int .u32 p.mine, .int .u32 p.boot, .int .u32 p.yours, .int .u32 p.seq, .int .u32 p.ack, .int .u32 p.stamp, .int .u32 p.echo, .complex .f64 p.zr p.zi, .slice Ab p.body.length cb]] w fun e w' => Took w B S g (emit_ (fill_ (cutL (bumpL L) kn)) (ackP (fill_ (cutL (bumpL L) kn)))) true false false p.body e w' := by
  have HG0 := Lib.hid (show (((w.alloc (.cells #[.int .i64 p.kind, .int .u32 p.mine, .int .u32 p.boot, .int .u32 p.yours, .int .u32 p.seq, .int .u32 p.ack, .int .u32 p.stamp, .int .u32 p.echo, .complex .f64 p.zr p.zi, .slice Ab p.body.length cb] 27)).alloc (.cells #[.bool false, .bool false, .bool false, .slice none 0 0] 56))).heap[w.heap.size]? = some (.cells #[.int .i64 p.kind, .int .u32 p.mine, .int .u32 p.boot, .int .u32 p.yours, .int .u32 p.seq, .int .u32 p.ack, .int .u32 p.stamp, .int .u32 p.echo, .complex .f64 p.zr p.zi, .slice Ab p.body.length cb] 27 (0, 0)) from (Below.heap_alloc _ _ _ (by simp)).trans (heap_alloc_new w _))
  have H := Lib.hid h
  have OK := Lib.hid hok
  have HS := Lib.hid hS
  have HPR := Lib.hid hpr
  have HCK := Lib.hid hck
  have hbz : (boot == 0) = false := by simp [hb0]
  have HPH := Lib.hid hph
  clear hph
  have HAG := Lib.hid hag
  clear hag
  have HKD := Lib.hid hkd
  clear hkd
  clear hbr
  have HMN := Lib.hid hmn
  clear hmn
  have HRP := Lib.hid hR
  have HKP := Lib.hid hkp
  have HPL := Lib.hid hpl
  clear hR hkp hpl
  have HKK := Lib.hid hkk
  clear hkk
  have hlb := OK.out.sent
  have hqb := OK.out.queue
  have hd6 : (p.seq == L.expected) = true := by simp [hsq]
  clear hsq
  have hd7 : decide ((kn : Int) ≥ 1) = true := by simp; omega
  have hd8 : decide ((kn : Int) ≤ L.sent) = true := by simp; omega
  have hw8 : IntKind.u32.wrap L.sent = L.sent := by rw [wrapU]; omega
  clear h1k
  have HKS := Lib.hid hks
  clear hks
  obtain ⟨A6, c6, hq6, hl6⟩ := Kd.Q_slice h.queue
  subst hq6
  have HKQ := Lib.hid (show kn ≤ L.queue.length by have := HKS.out; omega)
  have hsl := slice45 A6 L.queue.length c6 kn HKQ.out hl6
  obtain ⟨A7, hA7⟩ : ∃ A, A = (if c6 = kn then A6 else A6.map (·.add (kn * bytes.sz))) := ⟨_, rfl⟩
  rw [← hA7] at hsl
  have HA7 := Lib.hid hA7
  clear hA7
  clear hl6
  have hkq := HKQ.out
  generalize hqn : L.queue.length = qn at H hsl hkq hlb hqb
  have HQN := Lib.hid hqn
  clear hqn
  have hc4 : kn < 4294967296 := by omega
  clear h hok hS hpr hck hb0
  go_enter Try.func34, Try.ntmps34
  go_wp2_with fail
  refine wp_scope_hid 3 (fun C HC => ?_)
  go_wp2_with (first | ((with_reducible refine gate_dst (N := 17) rfl ?_); (refine wpList_load_row rfl 27 (.tmp 5) rfl w.heap.size (by rfl) 27 #[.int .i64 p.kind, .int .u32 p.mine, .int .u32 p.boot, .int .u32 p.yours, .int .u32 p.seq, .int .u32 p.ack, .int .u32 p.stamp, .int .u32 p.echo, .complex .f64 p.zr p.zi, .slice Ab p.body.length cb] (0, 0) _ HG0.out Try.underlying27 rfl (by kernel_rfl) ?_)) | (go_at_call 20; (refine (check_any _ _ _ _ _ _ _ _ _ _ _ _ _ _ HPR.out.zr HPR.out.zi).mono ?_); (rintro e w_K0 ⟨rfl, hb⟩); (rw [HCK.out]); (have K0 := Lib.hid (TS.start (pc := #[.int .i64 p.kind, .int .u32 p.mine, .int .u32 p.boot, .int .u32 p.yours, .int .u32 p.seq, .int .u32 p.ack, .int .u32 p.stamp, .int .u32 p.echo, .complex .f64 p.zr p.zi, .slice Ab p.body.length cb]) H.out HS.out hB (hb.mono (by simp)))); (clear hb); (have hl1 : w_K0.cell? ⟨g, 1, none⟩ = some (.int .i64 2) := (blk_cell K0.out.at_.blk 1).trans (congrArg (fun x => some (Value.int .i64 x)) HPH.out)); (have hp0 : w_K0.cell? ⟨w.heap.size, 0, none⟩ = some (.int .i64 2) := (blk_cell K0.out.pb 0).trans (congrArg (fun x => some (Value.int .i64 x)) HKD.out)); (have hp1 : w_K0.cell? ⟨w.heap.size, 1, none⟩ = some (.int .u32 p.mine) := (blk_cell K0.out.pb 1).trans rfl)) | (go_at_call 76; (refine (age_of K0.out.at_ boot p.mine).mono ?_); (rintro e w1 ⟨rfl, rfl⟩); (rw [HAG.out])) | ((with_reducible refine gate_dst (N := 59) rfl ?_); (refine gate_guard (by rfl) ?_); (refine wpList_load_row rfl 27 (.tmp 5) rfl w.heap.size (by rfl) 27 _ (0, 0) _ (by first | exact K0.out.pb | exact (K0.out.drewN hB _).pb) Try.underlying27 rfl (by kernel_rfl) ?_)) | (go_at_call 77; (refine (meant_of K0.out.at_ p (.slice Ab p.body.length cb)).mono ?_); (rintro e w_K1 ⟨rfl, hb⟩); (have hme : meantF (L) p = true := HMN.out); (rw [hme]); (clear hme); (have K1 := Lib.hid (K0.out.sub hB hb)); (clear hb); (clear hl1 hp0 hp1)) | ((with_reducible refine gate_ (.store 4 (.tmp 62) (.const (.bool true))) rfl ?_); (refine store_F (fun wz => TS w B S g #[.int .i64 p.kind, .int .u32 p.mine, .int .u32 p.boot, .int .u32 p.yours, .int .u32 p.seq, .int .u32 p.ack, .int .u32 p.stamp, .int .u32 p.echo, .complex .f64 p.zr p.zi, .slice Ab p.body.length cb] okq oko (fun _ => False) (L) (.slice A6 qn c6) o true false false (.slice none 0 0) [] wz) rfl rfl ⟨_, (by have hz1 : World.cell? w_K1 ⟨w.heap.size + 1, 0, none⟩ = some _ := (blk_cell K1.out.tb 0).trans rfl; have hz2 := blk_frozen K1.out.tb 0; first | (go_simp; done) | (go_simp; rfl)), TS.setT1 K1.out hB 0 _ rfl⟩ (fun w_K2 hF => ?_)); (have K2 := Lib.hid hF); (clear hF); (have hl9 : w_K2.cell? ⟨g, 9, none⟩ = some (.int .u32 L.expected) := (blk_cell K2.out.at_.blk 9).trans rfl); (have hp0 : w_K2.cell? ⟨w.heap.size, 0, none⟩ = some (.int .i64 2) := (blk_cell K2.out.pb 0).trans (congrArg (fun x => some (Value.int .i64 x)) HKD.out)); (have hp4 : w_K2.cell? ⟨w.heap.size, 4, none⟩ = some (.int .u32 p.seq) := (blk_cell K2.out.pb 4).trans rfl)))
  refine wp_goto ?_
  refine Jump.goto HC.out rfl ?_
  go_wp2_with fail
  go_quiet (fail)
  rename Nat => nqq1
  go_wp2_with (first | ((with_reducible refine gate_ (.store 24 (.tmp 131) (.tmp 129)) rfl ?_); (refine store_F (fun wz => TS w B S g #[.int .i64 p.kind, .int .u32 p.mine, .int .u32 p.boot, .int .u32 p.yours, .int .u32 p.seq, .int .u32 p.ack, .int .u32 p.stamp, .int .u32 p.echo, .complex .f64 p.zr p.zi, .slice Ab p.body.length cb] okq oko (fun _ => False) (bumpL L) (.slice A6 qn c6) o true false false (.slice none 0 0) [] wz) rfl rfl ⟨_, (by have hz1 : World.cell? w_K2 ⟨g, 9, none⟩ = some _ := (blk_cell K2.out.at_.blk 9).trans rfl; have hz2 := blk_frozen K2.out.at_.blk 9; first | (go_simp; done) | (go_simp; rfl)), TS.setL1 (K2.out.drewN hB nqq1) hB 9 _ rfl rfl rfl⟩ (fun w_K3 hF => ?_)); (have K3 := Lib.hid hF); (clear hF); (clear hl9 hp0 hp4); (have hp9 : w_K3.cell? ⟨w.heap.size, 9, none⟩ = some (.slice Ab p.body.length cb) := (blk_cell K3.out.pb 9).trans rfl)) | ((with_reducible refine gate_dst (N := 134) rfl ?_); (refine Kd.R_append_rows (Kd.int .u8) (Rr := fun x cs => cs = [Value.int .u8 x]) (w0 := w) (W := w_K3) B rfl (.const (.slice none 0 0)) (.tmp 133) 22 5 (.int .u8 0) 1 rfl Try.underlying22 info5' rfl (by decide) (by decide) (.slice none 0 0) [] p.body Ab p.body.length cb (fun k => w_K3.heap.size ≤ k) (fun _ => False) rfl rfl (Kd.R_nil _ _ _ _ _) (Kd.R_reads' (Kd.R_kept HRP.out K3.out.kept HKP.out)).2.2 (fun _ _ hx => hx) (fun _ hf => hf.elim) (fun k hk => hk) K3.out.below (Nat.le_trans hB K3.out.kept.1) (by have := HPL.out; simp; omega) ?_); (intro v1 w_K4 hR hbl hg _); (obtain ⟨A1, c1, hv1⟩ := Kd.R_slice hR); (subst hv1); (have hF := TS.grow K3.out hB (⟨hg.os, hg.tape, hg.output, hg.size, fun k hk => hg.block k hk (by simp [Value.ownBlock])⟩ : Below w_K3.heap.size w_K3 w_K4) hR); (have K4 := Lib.hid hF.1); (have HRV := Lib.hid hF.2); (clear hF hR hbl hg); (clear hp9)) | ((with_reducible refine gate_ (.store 22 (.tmp 135) (.tmp 134)) rfl ?_); (refine store_F (fun wz => TS w B S g #[.int .i64 p.kind, .int .u32 p.mine, .int .u32 p.boot, .int .u32 p.yours, .int .u32 p.seq, .int .u32 p.ack, .int .u32 p.stamp, .int .u32 p.echo, .complex .f64 p.zr p.zi, .slice Ab p.body.length cb] okq oko (fun k => w_K3.heap.size ≤ k ∧ k < w_K4.heap.size) (bumpL L) (.slice A6 qn c6) o true false false ((.slice A1 ([] ++ p.body).length c1)) p.body wz) rfl rfl ⟨_, (by have hz1 : World.cell? w_K4 ⟨w.heap.size + 1, 3, none⟩ = some _ := (blk_cell K4.out.tb 3).trans rfl; have hz2 := blk_frozen K4.out.tb 3; first | (go_simp; done) | (go_simp; rfl)), K4.out.setT hB (Steps.At.set (Steps.At.refl _ _) 3 _) (blk_put K4.out.tb 3 _ rfl) HRV.out.1 HRV.out.2⟩ (fun w_K5 hF => ?_)); (have K5 := Lib.hid hF); (clear hF); (have hl8 : w_K5.cell? ⟨g, 8, none⟩ = some (.int .u32 L.base) := (blk_cell K5.out.at_.blk 8).trans rfl); (have hl6 : w_K5.cell? ⟨g, 6, none⟩ = some ((.slice A6 qn c6)) := (blk_cell K5.out.at_.blk 6).trans rfl); (have hl7 : w_K5.cell? ⟨g, 7, none⟩ = some (.int .i64 L.sent) := (blk_cell K5.out.at_.blk 7).trans rfl); (have hp5 : w_K5.cell? ⟨w.heap.size, 5, none⟩ = some (.int .u32 p.ack) := (blk_cell K5.out.pb 5).trans rfl); (have hp0 : w_K5.cell? ⟨w.heap.size, 0, none⟩ = some (.int .i64 2) := (blk_cell K5.out.pb 0).trans (congrArg (fun x => some (Value.int .i64 x)) HKD.out))))
  go_quiet ((go_at_call 79; refine (ahead_of _ _ _).mono fun _ _ hq => ⟨hq.1.trans (congrArg (fun x => Ending.returned (.int .u32 x)) HKK.out), _, hq.2.symm⟩))
  rename Nat => nqq2
  go_wp2_with (first | ((with_reducible refine gate_ (.store 45 (.tmp 162) (.tmp 160)) rfl ?_); (refine store_F (fun wz => TS w B S g #[.int .i64 p.kind, .int .u32 p.mine, .int .u32 p.boot, .int .u32 p.yours, .int .u32 p.seq, .int .u32 p.ack, .int .u32 p.stamp, .int .u32 p.echo, .complex .f64 p.zr p.zi, .slice Ab p.body.length cb] okq oko (fun k => w_K3.heap.size ≤ k ∧ k < w_K4.heap.size) ({ bumpL L with queue := (bumpL L).queue.drop kn }) (.slice A7 (qn - kn) (c6 - kn)) o true false false ((.slice A1 ([] ++ p.body).length c1)) p.body wz) rfl rfl ⟨_, (by have hz1 : World.cell? w_K5 ⟨g, 6, none⟩ = some _ := (blk_cell K5.out.at_.blk 6).trans rfl; have hz2 := blk_frozen K5.out.at_.blk 6; first | (go_simp; done) | (go_simp; rfl)), TS.cut (K5.out.drewN hB nqq2) hB rfl HKQ.out HA7.out⟩ (fun w_K6 hF => ?_)); (have K6 := Lib.hid hF); (clear hF); (clear hl8 hl6 hl7 hp5 hp0); (have hl8 : w_K6.cell? ⟨g, 8, none⟩ = some (.int .u32 L.base) := (blk_cell K6.out.at_.blk 8).trans rfl); (have hl7 : w_K6.cell? ⟨g, 7, none⟩ = some (.int .i64 L.sent) := (blk_cell K6.out.at_.blk 7).trans rfl); (have hp0 : w_K6.cell? ⟨w.heap.size, 0, none⟩ = some (.int .i64 2) := (blk_cell K6.out.pb 0).trans (congrArg (fun x => some (Value.int .i64 x)) HKD.out))) | ((with_reducible refine gate_ (.store 24 (.tmp 170) (.tmp 168)) rfl ?_); (have hT : TS w B S g #[.int .i64 p.kind, .int .u32 p.mine, .int .u32 p.boot, .int .u32 p.yours, .int .u32 p.seq, .int .u32 p.ack, .int .u32 p.stamp, .int .u32 p.echo, .complex .f64 p.zr p.zi, .slice Ab p.body.length cb] okq oko (fun k => w_K3.heap.size ≤ k ∧ k < w_K4.heap.size) ({ bumpL L with queue := (bumpL L).queue.drop kn, base := IntKind.u32.wrap (L.base + kn) }) (.slice A7 (qn - kn) (c6 - kn)) o true false false ((.slice A1 ([] ++ p.body).length c1)) p.body (World.setCell w_K6 ⟨g, 8, none⟩ (.int .u32 (IntKind.u32.wrap (L.base + kn)))) := TS.setL1 K6.out hB 8 (.int .u32 (IntKind.u32.wrap (L.base + kn))) rfl rfl rfl); (refine store_F (fun wz => TS w B S g #[.int .i64 p.kind, .int .u32 p.mine, .int .u32 p.boot, .int .u32 p.yours, .int .u32 p.seq, .int .u32 p.ack, .int .u32 p.stamp, .int .u32 p.echo, .complex .f64 p.zr p.zi, .slice Ab p.body.length cb] okq oko (fun k => w_K3.heap.size ≤ k ∧ k < w_K4.heap.size) ({ bumpL L with queue := (bumpL L).queue.drop kn, base := IntKind.u32.wrap (L.base + kn) }) (.slice A7 (qn - kn) (c6 - kn)) o true false false ((.slice A1 ([] ++ p.body).length c1)) p.body wz) rfl rfl ⟨_, (by have hz1 : World.cell? w_K6 ⟨g, 8, none⟩ = some _ := (blk_cell K6.out.at_.blk 8).trans rfl; have hz2 := blk_frozen K6.out.at_.blk 8; first | (go_simp; done) | (go_simp; rfl)), hT⟩ (fun w_K7 hF => ?_)); (have K7 := Lib.hid hF); (clear hF hT); (clear hl8 hl7 hp0); (have hl7 : w_K7.cell? ⟨g, 7, none⟩ = some (.int .i64 L.sent) := (blk_cell K7.out.at_.blk 7).trans rfl); (have hp0 : w_K7.cell? ⟨w.heap.size, 0, none⟩ = some (.int .i64 2) := (blk_cell K7.out.pb 0).trans (congrArg (fun x => some (Value.int .i64 x)) HKD.out))) | ((with_reducible refine gate_ (.store 3 (.tmp 179) (.tmp 177)) rfl ?_); (have hT : TS w B S g #[.int .i64 p.kind, .int .u32 p.mine, .int .u32 p.boot, .int .u32 p.yours, .int .u32 p.seq, .int .u32 p.ack, .int .u32 p.stamp, .int .u32 p.echo, .complex .f64 p.zr p.zi, .slice Ab p.body.length cb] okq oko (fun k => w_K3.heap.size ≤ k ∧ k < w_K4.heap.size) ({ bumpL L with queue := (bumpL L).queue.drop kn, base := IntKind.u32.wrap (L.base + kn), sent := L.sent - kn }) (.slice A7 (qn - kn) (c6 - kn)) o true false false ((.slice A1 ([] ++ p.body).length c1)) p.body (World.setCell w_K7 ⟨g, 7, none⟩ (.int .i64 (L.sent - kn))) := TS.setL1 K7.out hB 7 (.int .i64 (L.sent - kn)) rfl rfl rfl); (refine store_F (fun wz => TS w B S g #[.int .i64 p.kind, .int .u32 p.mine, .int .u32 p.boot, .int .u32 p.yours, .int .u32 p.seq, .int .u32 p.ack, .int .u32 p.stamp, .int .u32 p.echo, .complex .f64 p.zr p.zi, .slice Ab p.body.length cb] okq oko (fun k => w_K3.heap.size ≤ k ∧ k < w_K4.heap.size) ({ bumpL L with queue := (bumpL L).queue.drop kn, base := IntKind.u32.wrap (L.base + kn), sent := L.sent - kn }) (.slice A7 (qn - kn) (c6 - kn)) o true false false ((.slice A1 ([] ++ p.body).length c1)) p.body wz) rfl rfl ⟨_, (by have hz1 : World.cell? w_K7 ⟨g, 7, none⟩ = some _ := (blk_cell K7.out.at_.blk 7).trans rfl; have hz2 := blk_frozen K7.out.at_.blk 7; first | (go_simp; done) | (go_simp; rfl)), hT⟩ (fun w_K8 hF => ?_)); (have K8 := Lib.hid hF); (clear hF hT); (clear hl7 hp0); (have hp0 : w_K8.cell? ⟨w.heap.size, 0, none⟩ = some (.int .i64 2) := (blk_cell K8.out.pb 0).trans (congrArg (fun x => some (Value.int .i64 x)) HKD.out))) | ((with_reducible refine gate_ (.store 3 (.tmp 182) (.const (.int .i64 0))) rfl ?_); (have hT : TS w B S g #[.int .i64 p.kind, .int .u32 p.mine, .int .u32 p.boot, .int .u32 p.yours, .int .u32 p.seq, .int .u32 p.ack, .int .u32 p.stamp, .int .u32 p.echo, .complex .f64 p.zr p.zi, .slice Ab p.body.length cb] okq oko (fun k => w_K3.heap.size ≤ k ∧ k < w_K4.heap.size) (cutL (bumpL L) kn) (.slice A7 (qn - kn) (c6 - kn)) o true false false ((.slice A1 ([] ++ p.body).length c1)) p.body (World.setCell w_K8 ⟨g, 10, none⟩ (.int .i64 0)) := TS.setL1 K8.out hB 10 (.int .i64 0) rfl rfl rfl); (refine store_F (fun wz => TS w B S g #[.int .i64 p.kind, .int .u32 p.mine, .int .u32 p.boot, .int .u32 p.yours, .int .u32 p.seq, .int .u32 p.ack, .int .u32 p.stamp, .int .u32 p.echo, .complex .f64 p.zr p.zi, .slice Ab p.body.length cb] okq oko (fun k => w_K3.heap.size ≤ k ∧ k < w_K4.heap.size) (cutL (bumpL L) kn) (.slice A7 (qn - kn) (c6 - kn)) o true false false ((.slice A1 ([] ++ p.body).length c1)) p.body wz) rfl rfl ⟨_, (by have hz1 : World.cell? w_K8 ⟨g, 10, none⟩ = some _ := (blk_cell K8.out.at_.blk 10).trans rfl; have hz2 := blk_frozen K8.out.at_.blk 10; first | (go_simp; done) | (go_simp; rfl)), hT⟩ (fun w_K9 hF => ?_)); (have K9 := Lib.hid hF); (clear hF hT); (clear hp0); (have hp0 : w_K9.cell? ⟨w.heap.size, 0, none⟩ = some (.int .i64 2) := (blk_cell K9.out.pb 0).trans (congrArg (fun x => some (Value.int .i64 x)) HKD.out))) | (go_at_call 74; (refine (fill_of K9.out.at_ (cut_ok (bump_ok OK.out) HKS.out) (Nat.le_trans hB K9.out.kept.1)).mono ?_); (rintro e w_K10 ⟨rfl, hE⟩); (obtain ⟨oko_K10, o_K10, hF⟩ := TS.emits K9.out hB hE); (clear hE); (have K10 := Lib.hid hF); (clear hF); (clear hp0); (have hp0 : w_K10.cell? ⟨w.heap.size, 0, none⟩ = some (.int .i64 2) := (blk_cell K10.out.pb 0).trans (congrArg (fun x => some (Value.int .i64 x)) HKD.out))))
  have hSS : w_K10.drew.heap[g]? = some (.cells (row (fill_ (cutL (bumpL L) kn)) (.slice A7 (qn - kn) (c6 - kn)) o_K10) 131 (0, 0)) := K10.out.at_.blk
  have hts := K10.out.drew hB
  clear hp0
  refine start_ (n := 19) (S := fun w' => w'.heap[g]? = some (.cells (row (fill_ (cutL (bumpL L) kn)) (.slice A7 (qn - kn) (c6 - kn)) o_K10) 131 (0, 0))) (ds := [18]) #[false, false, false, false, false, false, false, false, false, false, false, false, false, false, false, false, false, false, false] (by kernel_rfl) rfl rfl (hSS) (fun hHeld => ?_)
  generalize w_K10.drew = w_Y11 at hts hHeld ⊢
  have KY11 := Lib.hid hts
  clear hts hSS
  have HC9 := Lib.hid (emit_of (⟨3, (fill_ (cutL (bumpL L) kn)).token, (fill_ (cutL (bumpL L) kn)).boot, (fill_ (cutL (bumpL L) kn)).yours, 0, (fill_ (cutL (bumpL L) kn)).expected, 0, 0, 0, 0, []⟩ : Pkt) (.slice none 0 0) KY11.out.at_ (fill_ok (cut_ok (bump_ok OK.out) HKS.out)) (Nat.le_trans hB KY11.out.kept.1) (okp := fun _ => False) (pkt_M.2 ⟨_, rfl, Kd.R_nil _ _ _ _ _⟩) (fun _ hk => hk.elim))
  refine pure_ (i := 0) (N := some 188) (v := ?_) (a' := ?_) #[true, false, false, false, false, false, false, false, false, false, false, false, false, false, false, false, false, false, false] rfl rfl (by kernel_rfl) (fun _ _ _ h => h) (Or.inl ⟨by rfl, ?_⟩) ?_ ?_
  rotate_left
  · intro w'
    go_simp
    with_reducible rfl
  rotate_left
  · simp only [Act.put, List.setIfInBounds_toArray, List.set_cons_zero, List.set_cons_succ]
    rfl
  refine pure_ (i := 1) (N := some 189) (v := ?_) (a' := ?_) #[true, true, false, false, false, false, false, false, false, false, false, false, false, false, false, false, false, false, false] rfl rfl (by kernel_rfl) (fun _ _ _ h => h) (Or.inl ⟨by rfl, ?_⟩) ?_ ?_
  rotate_left
  · intro w'
    go_simp
    with_reducible rfl
  rotate_left
  · simp only [Act.put, List.setIfInBounds_toArray, List.set_cons_zero, List.set_cons_succ]
    rfl
  refine pure_ (i := 2) (N := some 190) (v := ?_) (a' := ?_) #[true, true, true, false, false, false, false, false, false, false, false, false, false, false, false, false, false, false, false] rfl rfl (by kernel_rfl) (fun _ _ _ h => h) (Or.inl ⟨by rfl, ?_⟩) ?_ ?_
  rotate_left
  · intro w'
    go_simp
    with_reducible rfl
  rotate_left
  · simp only [Act.put, List.setIfInBounds_toArray, List.set_cons_zero, List.set_cons_succ]
    rfl
  refine pure_ (i := 3) (N := some 191) (v := ?_) (a' := ?_) #[true, true, true, true, false, false, false, false, false, false, false, false, false, false, false, false, false, false, false] rfl rfl (by kernel_rfl) (fun _ _ _ h => h) (Or.inl ⟨by rfl, ?_⟩) ?_ ?_
  rotate_left
  · intro w'
    go_simp
    with_reducible rfl
  rotate_left
  · simp only [Act.put, List.setIfInBounds_toArray, List.set_cons_zero, List.set_cons_succ]
    rfl
  refine take_ (i := 4) (N := some 192) (v := ?_) (a' := ?_) #[true, true, true, true, true, false, false, false, false, false, false, false, false, false, false, false, false, false, false] rfl rfl (by kernel_rfl) (fun _ _ _ h => h) (Or.inl ⟨by rfl, ?_⟩) hHeld ?_ ?_
  rotate_left
  · intro w' s0
    have hc2 : w'.cell? ⟨g, 2, none⟩ = some (.int .u32 (fill_ (cutL (bumpL L) kn)).token) := (blk_cell s0 2).trans rfl
    clear s0
    go_simp
    with_reducible rfl
  rotate_left
  · simp only [Act.put, List.setIfInBounds_toArray, List.set_cons_zero, List.set_cons_succ]
    rfl
  refine pure_ (i := 5) (N := some 193) (v := ?_) (a' := ?_) #[true, true, true, true, true, true, false, false, false, false, false, false, false, false, false, false, false, false, false] rfl rfl (by kernel_rfl) (fun _ _ _ h => h) (Or.inl ⟨by rfl, ?_⟩) ?_ ?_
  rotate_left
  · intro w'
    go_simp
    with_reducible rfl
  rotate_left
  · simp only [Act.put, List.setIfInBounds_toArray, List.set_cons_zero, List.set_cons_succ]
    rfl
  refine pure_ (i := 6) (N := some 194) (v := ?_) (a' := ?_) #[true, true, true, true, true, true, true, false, false, false, false, false, false, false, false, false, false, false, false] rfl rfl (by kernel_rfl) (fun _ _ _ h => h) (Or.inl ⟨by rfl, ?_⟩) ?_ ?_
  rotate_left
  · intro w'
    go_simp
    with_reducible rfl
  rotate_left
  · simp only [Act.put, List.setIfInBounds_toArray, List.set_cons_zero, List.set_cons_succ]
    rfl
  refine pure_ (i := 7) (N := some 195) (v := ?_) (a' := ?_) #[true, true, true, true, true, true, true, true, false, false, false, false, false, false, false, false, false, false, false] rfl rfl (by kernel_rfl) (fun _ _ _ h => h) (Or.inl ⟨by rfl, ?_⟩) ?_ ?_
  rotate_left
  · intro w'
    go_simp
    with_reducible rfl
  rotate_left
  · simp only [Act.put, List.setIfInBounds_toArray, List.set_cons_zero, List.set_cons_succ]
    rfl
  refine take_ (i := 8) (N := some 196) (v := ?_) (a' := ?_) #[true, true, true, true, true, true, true, true, true, false, false, false, false, false, false, false, false, false, false] rfl rfl (by kernel_rfl) (fun _ _ _ h => h) (Or.inl ⟨by rfl, ?_⟩) hHeld ?_ ?_
  rotate_left
  · intro w' s0
    have hc3 : w'.cell? ⟨g, 3, none⟩ = some (.int .u32 (fill_ (cutL (bumpL L) kn)).boot) := (blk_cell s0 3).trans rfl
    clear s0
    go_simp
    with_reducible rfl
  rotate_left
  · simp only [Act.put, List.setIfInBounds_toArray, List.set_cons_zero, List.set_cons_succ]
    rfl
  refine pure_ (i := 9) (N := some 197) (v := ?_) (a' := ?_) #[true, true, true, true, true, true, true, true, true, true, false, false, false, false, false, false, false, false, false] rfl rfl (by kernel_rfl) (fun _ _ _ h => h) (Or.inl ⟨by rfl, ?_⟩) ?_ ?_
  rotate_left
  · intro w'
    go_simp
    with_reducible rfl
  rotate_left
  · simp only [Act.put, List.setIfInBounds_toArray, List.set_cons_zero, List.set_cons_succ]
    rfl
  refine pure_ (i := 10) (N := some 198) (v := ?_) (a' := ?_) #[true, true, true, true, true, true, true, true, true, true, true, false, false, false, false, false, false, false, false] rfl rfl (by kernel_rfl) (fun _ _ _ h => h) (Or.inl ⟨by rfl, ?_⟩) ?_ ?_
  rotate_left
  · intro w'
    go_simp
    with_reducible rfl
  rotate_left
  · simp only [Act.put, List.setIfInBounds_toArray, List.set_cons_zero, List.set_cons_succ]
    rfl
  refine pure_ (i := 11) (N := some 199) (v := ?_) (a' := ?_) #[true, true, true, true, true, true, true, true, true, true, true, true, false, false, false, false, false, false, false] rfl rfl (by kernel_rfl) (fun _ _ _ h => h) (Or.inl ⟨by rfl, ?_⟩) ?_ ?_
  rotate_left
  · intro w'
    go_simp
    with_reducible rfl
  rotate_left
  · simp only [Act.put, List.setIfInBounds_toArray, List.set_cons_zero, List.set_cons_succ]
    rfl
  refine take_ (i := 12) (N := some 200) (v := ?_) (a' := ?_) #[true, true, true, true, true, true, true, true, true, true, true, true, true, false, false, false, false, false, false] rfl rfl (by kernel_rfl) (fun _ _ _ h => h) (Or.inl ⟨by rfl, ?_⟩) hHeld ?_ ?_
  rotate_left
  · intro w' s0
    have hc4 : w'.cell? ⟨g, 4, none⟩ = some (.int .u32 (fill_ (cutL (bumpL L) kn)).yours) := (blk_cell s0 4).trans rfl
    clear s0
    go_simp
    with_reducible rfl
  rotate_left
  · simp only [Act.put, List.setIfInBounds_toArray, List.set_cons_zero, List.set_cons_succ]
    rfl
  refine pure_ (i := 13) (N := some 201) (v := ?_) (a' := ?_) #[true, true, true, true, true, true, true, true, true, true, true, true, true, true, false, false, false, false, false] rfl rfl (by kernel_rfl) (fun _ _ _ h => h) (Or.inl ⟨by rfl, ?_⟩) ?_ ?_
  rotate_left
  · intro w'
    go_simp
    with_reducible rfl
  rotate_left
  · simp only [Act.put, List.setIfInBounds_toArray, List.set_cons_zero, List.set_cons_succ]
    rfl
  refine pure_ (i := 14) (N := some 202) (v := ?_) (a' := ?_) #[true, true, true, true, true, true, true, true, true, true, true, true, true, true, true, false, false, false, false] rfl rfl (by kernel_rfl) (fun _ _ _ h => h) (Or.inl ⟨by rfl, ?_⟩) ?_ ?_
  rotate_left
  · intro w'
    go_simp
    with_reducible rfl
  rotate_left
  · simp only [Act.put, List.setIfInBounds_toArray, List.set_cons_zero, List.set_cons_succ]
    rfl
  refine pure_ (i := 15) (N := some 203) (v := ?_) (a' := ?_) #[true, true, true, true, true, true, true, true, true, true, true, true, true, true, true, true, false, false, false] rfl rfl (by kernel_rfl) (fun _ _ _ h => h) (Or.inl ⟨by rfl, ?_⟩) ?_ ?_
  rotate_left
  · intro w'
    go_simp
    with_reducible rfl
  rotate_left
  · simp only [Act.put, List.setIfInBounds_toArray, List.set_cons_zero, List.set_cons_succ]
    rfl
  refine take_ (i := 16) (N := some 204) (v := ?_) (a' := ?_) #[true, true, true, true, true, true, true, true, true, true, true, true, true, true, true, true, true, false, false] rfl rfl (by kernel_rfl) (fun _ _ _ h => h) (Or.inl ⟨by rfl, ?_⟩) hHeld ?_ ?_
  rotate_left
  · intro w' s0
    have hc9 : w'.cell? ⟨g, 9, none⟩ = some (.int .u32 (fill_ (cutL (bumpL L) kn)).expected) := (blk_cell s0 9).trans rfl
    clear s0
    go_simp
    with_reducible rfl
  rotate_left
  · simp only [Act.put, List.setIfInBounds_toArray, List.set_cons_zero, List.set_cons_succ]
    rfl
  refine pure_ (i := 17) (N := some 205) (v := ?_) (a' := ?_) #[true, true, true, true, true, true, true, true, true, true, true, true, true, true, true, true, true, true, false] rfl rfl (by kernel_rfl) (fun _ _ _ h => h) (Or.inl ⟨by rfl, ?_⟩) ?_ ?_
  rotate_left
  · intro w'
    have hu27 := Try.underlying27
    go_simp
    rfl
  rotate_left
  · simp only [Act.put, List.setIfInBounds_toArray, List.set_cons_zero, List.set_cons_succ]
    rfl
  refine last_ (i := 18) (N := some 206) #[true, true, true, true, true, true, true, true, true, true, true, true, true, true, true, true, true, true, true] rfl rfl (by kernel_rfl) (by decide) (fun K hK => ?_)
  refine goes_ Try.func80 (by kernel_rfl) rfl #[.pointer (some ⟨g, 0, none⟩), .agg #[.int .i64 3, .int .u32 (fill_ (cutL (bumpL L) kn)).token, .int .u32 (fill_ (cutL (bumpL L) kn)).boot, .int .u32 (fill_ (cutL (bumpL L) kn)).yours, .int .u32 0, .int .u32 (fill_ (cutL (bumpL L) kn)).expected, .int .u32 0, .int .u32 0, .complex .f64 0 0, .slice none 0 0]] (by rfl) rfl rfl (by (try simp only [List.map_toArray, List.map_cons, List.map_nil]); first | done | rfl) ?_
  refine HC9.out.mono ?_
  rintro e w_K12 ⟨rfl, hE⟩
  obtain ⟨oko_K12, o_K12, hF⟩ := TS.emits KY11.out hB hE
  have K12 := Lib.hid hF
  clear hE hF
  refine ⟨_, rfl, ?_⟩
  refine hK.out _ _ ?_
  clear hK K
  refine done_ (by kernel_rfl) ?_
  go_wp2_with fail
  refine wp_label ?_
  go_wp2_with (first | ((with_reducible refine gate_dst (N := 207) rfl ?_); (refine wpList_load_row rfl 56 (.tmp 6) rfl (w.heap.size + 1) (by rfl) 56 _ (0, 0) _ (by first | exact K12.out.tb | exact (K12.out.drewN hB _).tb) Try.underlying56 rfl (by kernel_rfl) ?_)) | ((with_reducible refine gate_ (.store 56 (.tmp 6) (.tmp 207)) rfl ?_); (refine store_row_F rfl rfl 56 (.tmp 6) (.tmp 207) rfl (w.heap.size + 1) _ rfl rfl 56 _ (by first | exact K12.out.tb | exact (K12.out.drewN hB _).tb) (by kernel_rfl) rfl (by kernel_rfl) ?_); (intro w_K13 hb9 hat9); (have hF := TS.setT (by first | exact K12.out | exact K12.out.drewN hB _ | exact K12.out.drew hB) hB hat9 hb9 (by first | exact K12.out.brow | exact (K12.out.drewN hB _).brow) (by first | exact K12.out.okb | exact (K12.out.drewN hB _).okb)); (have K13 := Lib.hid hF); (clear hF hb9 hat9)))
  refine Jump.ret ?_
  refine bodyPost_ret ?_ rfl (K13.out.ends)
  exact results_cell2 Try.results34 _ _ rfl rfl (run_loadVar_row (P := Try.prog) _ (w.heap.size + 1) 56 56 _ (0, 0) _ K13.out.tb Try.underlying56 rfl (by kernel_rfl))
set_option maxRecDepth 100000 in
set_option maxHeartbeats 4000000 in
theorem take_up11z {w : World} {B g : Nat} {okq oko S : Nat → Prop} {L : Lk} {q o : Value} (h : At w B okq oko g L q o) (hok : L.Ok) (hS : ∀ k, holds okq oko g k → S k) (hB : B ≤ w.heap.size) (boot : Int) (p : Pkt) (Ab : Option Addr) (cb : Nat)
    (hb0 : boot ≠ 0) (hbr : 0 ≤ boot ∧ boot < 4294967296) (hpr : p.Rng) (hck : checkP p.kind p.mine p.boot p.yours p.seq p.ack p.stamp p.echo p.zr p.zi p.body.length = 0)  (hph : L.phase = 2) (hag : ageF L boot p.mine = 0) (hmn : meantF L p = true) (hpl : p.body.length ≤ 1000) {okp : Nat → Prop} (hR : (Kd.int .u8).R 5 w B okp (.slice Ab p.body.length cb) p.body) (hkp : ∀ k, okp k → ¬ S k) (kn : Nat) (hkk : IntKind.u32.wrap (p.ack - L.base) = kn) (hkd : p.kind = 2) (hsq : p.seq = L.expected) (h1k : kn = 0) :
    Calls Try.prog 34 #[.pointer (some ⟨g, 0, none⟩), .int .u32 boot, .agg #[.int .i64 p.kind, .int .u32 p.mine, .int .u32 p.boot, .int .u32 p.yours, .int .u32 p.seq, .int .u32 p.ack, .int .u32 p.stamp, .int .u32 p.echo, .complex .f64 p.zr p.zi, .slice Ab p.body.length cb]] w fun e w' => Took w B S g (emit_ (bumpL L) (ackP (bumpL L))) true false false p.body e w' := by
  have HG0 := Lib.hid (show (((w.alloc (.cells #[.int .i64 p.kind, .int .u32 p.mine, .int .u32 p.boot, .int .u32 p.yours, .int .u32 p.seq, .int .u32 p.ack, .int .u32 p.stamp, .int .u32 p.echo, .complex .f64 p.zr p.zi, .slice Ab p.body.length cb] 27)).alloc (.cells #[.bool false, .bool false, .bool false, .slice none 0 0] 56))).heap[w.heap.size]? = some (.cells #[.int .i64 p.kind, .int .u32 p.mine, .int .u32 p.boot, .int .u32 p.yours, .int .u32 p.seq, .int .u32 p.ack, .int .u32 p.stamp, .int .u32 p.echo, .complex .f64 p.zr p.zi, .slice Ab p.body.length cb] 27 (0, 0)) from (Below.heap_alloc _ _ _ (by simp)).trans (heap_alloc_new w _))
  have H := Lib.hid h
  have OK := Lib.hid hok
  have HS := Lib.hid hS
  have HPR := Lib.hid hpr
  have HCK := Lib.hid hck
  have hbz : (boot == 0) = false := by simp [hb0]
  have HPH := Lib.hid hph
  clear hph
  have HAG := Lib.hid hag
  clear hag
  have HKD := Lib.hid hkd
  clear hkd
  clear hbr
  have HMN := Lib.hid hmn
  clear hmn
  have HRP := Lib.hid hR
  have HKP := Lib.hid hkp
  have HPL := Lib.hid hpl
  clear hR hkp hpl
  have HKK := Lib.hid hkk
  clear hkk
  have hlb := OK.out.sent
  have hqb := OK.out.queue
  have hd6 : (p.seq == L.expected) = true := by simp [hsq]
  clear hsq
  have hd7 : decide ((kn : Int) ≥ 1) = false := by simp; omega
  clear h1k
  clear h hok hS hpr hck hb0
  go_enter Try.func34, Try.ntmps34
  go_wp2_with fail
  refine wp_scope_hid 3 (fun C HC => ?_)
  go_wp2_with (first | ((with_reducible refine gate_dst (N := 17) rfl ?_); (refine wpList_load_row rfl 27 (.tmp 5) rfl w.heap.size (by rfl) 27 #[.int .i64 p.kind, .int .u32 p.mine, .int .u32 p.boot, .int .u32 p.yours, .int .u32 p.seq, .int .u32 p.ack, .int .u32 p.stamp, .int .u32 p.echo, .complex .f64 p.zr p.zi, .slice Ab p.body.length cb] (0, 0) _ HG0.out Try.underlying27 rfl (by kernel_rfl) ?_)) | (go_at_call 20; (refine (check_any _ _ _ _ _ _ _ _ _ _ _ _ _ _ HPR.out.zr HPR.out.zi).mono ?_); (rintro e w_K0 ⟨rfl, hb⟩); (rw [HCK.out]); (have K0 := Lib.hid (TS.start (pc := #[.int .i64 p.kind, .int .u32 p.mine, .int .u32 p.boot, .int .u32 p.yours, .int .u32 p.seq, .int .u32 p.ack, .int .u32 p.stamp, .int .u32 p.echo, .complex .f64 p.zr p.zi, .slice Ab p.body.length cb]) H.out HS.out hB (hb.mono (by simp)))); (clear hb); (have hl1 : w_K0.cell? ⟨g, 1, none⟩ = some (.int .i64 2) := (blk_cell K0.out.at_.blk 1).trans (congrArg (fun x => some (Value.int .i64 x)) HPH.out)); (have hp0 : w_K0.cell? ⟨w.heap.size, 0, none⟩ = some (.int .i64 2) := (blk_cell K0.out.pb 0).trans (congrArg (fun x => some (Value.int .i64 x)) HKD.out)); (have hp1 : w_K0.cell? ⟨w.heap.size, 1, none⟩ = some (.int .u32 p.mine) := (blk_cell K0.out.pb 1).trans rfl)) | (go_at_call 76; (refine (age_of K0.out.at_ boot p.mine).mono ?_); (rintro e w1 ⟨rfl, rfl⟩); (rw [HAG.out])) | ((with_reducible refine gate_dst (N := 59) rfl ?_); (refine gate_guard (by rfl) ?_); (refine wpList_load_row rfl 27 (.tmp 5) rfl w.heap.size (by rfl) 27 _ (0, 0) _ (by first | exact K0.out.pb | exact (K0.out.drewN hB _).pb) Try.underlying27 rfl (by kernel_rfl) ?_)) | (go_at_call 77; (refine (meant_of K0.out.at_ p (.slice Ab p.body.length cb)).mono ?_); (rintro e w_K1 ⟨rfl, hb⟩); (have hme : meantF (L) p = true := HMN.out); (rw [hme]); (clear hme); (have K1 := Lib.hid (K0.out.sub hB hb)); (clear hb); (clear hl1 hp0 hp1)) | ((with_reducible refine gate_ (.store 4 (.tmp 62) (.const (.bool true))) rfl ?_); (refine store_F (fun wz => TS w B S g #[.int .i64 p.kind, .int .u32 p.mine, .int .u32 p.boot, .int .u32 p.yours, .int .u32 p.seq, .int .u32 p.ack, .int .u32 p.stamp, .int .u32 p.echo, .complex .f64 p.zr p.zi, .slice Ab p.body.length cb] okq oko (fun _ => False) (L) q o true false false (.slice none 0 0) [] wz) rfl rfl ⟨_, (by have hz1 : World.cell? w_K1 ⟨w.heap.size + 1, 0, none⟩ = some _ := (blk_cell K1.out.tb 0).trans rfl; have hz2 := blk_frozen K1.out.tb 0; first | (go_simp; done) | (go_simp; rfl)), TS.setT1 K1.out hB 0 _ rfl⟩ (fun w_K2 hF => ?_)); (have K2 := Lib.hid hF); (clear hF); (have hl9 : w_K2.cell? ⟨g, 9, none⟩ = some (.int .u32 L.expected) := (blk_cell K2.out.at_.blk 9).trans rfl); (have hp0 : w_K2.cell? ⟨w.heap.size, 0, none⟩ = some (.int .i64 2) := (blk_cell K2.out.pb 0).trans (congrArg (fun x => some (Value.int .i64 x)) HKD.out)); (have hp4 : w_K2.cell? ⟨w.heap.size, 4, none⟩ = some (.int .u32 p.seq) := (blk_cell K2.out.pb 4).trans rfl)))
  refine wp_goto ?_
  refine Jump.goto HC.out rfl ?_
  go_wp2_with fail
  go_quiet (fail)
  rename Nat => nqq1
  go_wp2_with (first | ((with_reducible refine gate_ (.store 24 (.tmp 131) (.tmp 129)) rfl ?_); (refine store_F (fun wz => TS w B S g #[.int .i64 p.kind, .int .u32 p.mine, .int .u32 p.boot, .int .u32 p.yours, .int .u32 p.seq, .int .u32 p.ack, .int .u32 p.stamp, .int .u32 p.echo, .complex .f64 p.zr p.zi, .slice Ab p.body.length cb] okq oko (fun _ => False) (bumpL L) q o true false false (.slice none 0 0) [] wz) rfl rfl ⟨_, (by have hz1 : World.cell? w_K2 ⟨g, 9, none⟩ = some _ := (blk_cell K2.out.at_.blk 9).trans rfl; have hz2 := blk_frozen K2.out.at_.blk 9; first | (go_simp; done) | (go_simp; rfl)), TS.setL1 (K2.out.drewN hB nqq1) hB 9 _ rfl rfl rfl⟩ (fun w_K3 hF => ?_)); (have K3 := Lib.hid hF); (clear hF); (clear hl9 hp0 hp4); (have hp9 : w_K3.cell? ⟨w.heap.size, 9, none⟩ = some (.slice Ab p.body.length cb) := (blk_cell K3.out.pb 9).trans rfl)) | ((with_reducible refine gate_dst (N := 134) rfl ?_); (refine Kd.R_append_rows (Kd.int .u8) (Rr := fun x cs => cs = [Value.int .u8 x]) (w0 := w) (W := w_K3) B rfl (.const (.slice none 0 0)) (.tmp 133) 22 5 (.int .u8 0) 1 rfl Try.underlying22 info5' rfl (by decide) (by decide) (.slice none 0 0) [] p.body Ab p.body.length cb (fun k => w_K3.heap.size ≤ k) (fun _ => False) rfl rfl (Kd.R_nil _ _ _ _ _) (Kd.R_reads' (Kd.R_kept HRP.out K3.out.kept HKP.out)).2.2 (fun _ _ hx => hx) (fun _ hf => hf.elim) (fun k hk => hk) K3.out.below (Nat.le_trans hB K3.out.kept.1) (by have := HPL.out; simp; omega) ?_); (intro v1 w_K4 hR hbl hg _); (obtain ⟨A1, c1, hv1⟩ := Kd.R_slice hR); (subst hv1); (have hF := TS.grow K3.out hB (⟨hg.os, hg.tape, hg.output, hg.size, fun k hk => hg.block k hk (by simp [Value.ownBlock])⟩ : Below w_K3.heap.size w_K3 w_K4) hR); (have K4 := Lib.hid hF.1); (have HRV := Lib.hid hF.2); (clear hF hR hbl hg); (clear hp9)) | ((with_reducible refine gate_ (.store 22 (.tmp 135) (.tmp 134)) rfl ?_); (refine store_F (fun wz => TS w B S g #[.int .i64 p.kind, .int .u32 p.mine, .int .u32 p.boot, .int .u32 p.yours, .int .u32 p.seq, .int .u32 p.ack, .int .u32 p.stamp, .int .u32 p.echo, .complex .f64 p.zr p.zi, .slice Ab p.body.length cb] okq oko (fun k => w_K3.heap.size ≤ k ∧ k < w_K4.heap.size) (bumpL L) q o true false false ((.slice A1 ([] ++ p.body).length c1)) p.body wz) rfl rfl ⟨_, (by have hz1 : World.cell? w_K4 ⟨w.heap.size + 1, 3, none⟩ = some _ := (blk_cell K4.out.tb 3).trans rfl; have hz2 := blk_frozen K4.out.tb 3; first | (go_simp; done) | (go_simp; rfl)), K4.out.setT hB (Steps.At.set (Steps.At.refl _ _) 3 _) (blk_put K4.out.tb 3 _ rfl) HRV.out.1 HRV.out.2⟩ (fun w_K5 hF => ?_)); (have K5 := Lib.hid hF); (clear hF); (have hl8 : w_K5.cell? ⟨g, 8, none⟩ = some (.int .u32 L.base) := (blk_cell K5.out.at_.blk 8).trans rfl); (have hp5 : w_K5.cell? ⟨w.heap.size, 5, none⟩ = some (.int .u32 p.ack) := (blk_cell K5.out.pb 5).trans rfl); (have hp0 : w_K5.cell? ⟨w.heap.size, 0, none⟩ = some (.int .i64 2) := (blk_cell K5.out.pb 0).trans (congrArg (fun x => some (Value.int .i64 x)) HKD.out))))
  go_quiet ((go_at_call 79; refine (ahead_of _ _ _).mono fun _ _ hq => ⟨hq.1.trans (congrArg (fun x => Ending.returned (.int .u32 x)) HKK.out), _, hq.2.symm⟩))
  rename Nat => nqq2
  go_wp2_with fail
  have hSS : (w_K5.drewN nqq2).drew.heap[g]? = some (.cells (row (bumpL L) q o) 131 (0, 0)) := (K5.out.drewN hB nqq2).at_.blk
  have hts := (K5.out.drewN hB nqq2).drew hB
  clear hl8 hp5 hp0
  refine start_ (n := 19) (S := fun w' => w'.heap[g]? = some (.cells (row (bumpL L) q o) 131 (0, 0))) (ds := [18]) #[false, false, false, false, false, false, false, false, false, false, false, false, false, false, false, false, false, false, false] (by kernel_rfl) rfl rfl (hSS) (fun hHeld => ?_)
  generalize (w_K5.drewN nqq2).drew = w_Y6 at hts hHeld ⊢
  have KY6 := Lib.hid hts
  clear hts hSS
  have HC9 := Lib.hid (emit_of (⟨3, (bumpL L).token, (bumpL L).boot, (bumpL L).yours, 0, (bumpL L).expected, 0, 0, 0, 0, []⟩ : Pkt) (.slice none 0 0) KY6.out.at_ (bump_ok OK.out) (Nat.le_trans hB KY6.out.kept.1) (okp := fun _ => False) (pkt_M.2 ⟨_, rfl, Kd.R_nil _ _ _ _ _⟩) (fun _ hk => hk.elim))
  refine pure_ (i := 0) (N := some 188) (v := ?_) (a' := ?_) #[true, false, false, false, false, false, false, false, false, false, false, false, false, false, false, false, false, false, false] rfl rfl (by kernel_rfl) (fun _ _ _ h => h) (Or.inl ⟨by rfl, ?_⟩) ?_ ?_
  rotate_left
  · intro w'
    go_simp
    with_reducible rfl
  rotate_left
  · simp only [Act.put, List.setIfInBounds_toArray, List.set_cons_zero, List.set_cons_succ]
    rfl
  refine pure_ (i := 1) (N := some 189) (v := ?_) (a' := ?_) #[true, true, false, false, false, false, false, false, false, false, false, false, false, false, false, false, false, false, false] rfl rfl (by kernel_rfl) (fun _ _ _ h => h) (Or.inl ⟨by rfl, ?_⟩) ?_ ?_
  rotate_left
  · intro w'
    go_simp
    with_reducible rfl
  rotate_left
  · simp only [Act.put, List.setIfInBounds_toArray, List.set_cons_zero, List.set_cons_succ]
    rfl
  refine pure_ (i := 2) (N := some 190) (v := ?_) (a' := ?_) #[true, true, true, false, false, false, false, false, false, false, false, false, false, false, false, false, false, false, false] rfl rfl (by kernel_rfl) (fun _ _ _ h => h) (Or.inl ⟨by rfl, ?_⟩) ?_ ?_
  rotate_left
  · intro w'
    go_simp
    with_reducible rfl
  rotate_left
  · simp only [Act.put, List.setIfInBounds_toArray, List.set_cons_zero, List.set_cons_succ]
    rfl
  refine pure_ (i := 3) (N := some 191) (v := ?_) (a' := ?_) #[true, true, true, true, false, false, false, false, false, false, false, false, false, false, false, false, false, false, false] rfl rfl (by kernel_rfl) (fun _ _ _ h => h) (Or.inl ⟨by rfl, ?_⟩) ?_ ?_
  rotate_left
  · intro w'
    go_simp
    with_reducible rfl
  rotate_left
  · simp only [Act.put, List.setIfInBounds_toArray, List.set_cons_zero, List.set_cons_succ]
    rfl
  refine take_ (i := 4) (N := some 192) (v := ?_) (a' := ?_) #[true, true, true, true, true, false, false, false, false, false, false, false, false, false, false, false, false, false, false] rfl rfl (by kernel_rfl) (fun _ _ _ h => h) (Or.inl ⟨by rfl, ?_⟩) hHeld ?_ ?_
  rotate_left
  · intro w' s0
    have hc2 : w'.cell? ⟨g, 2, none⟩ = some (.int .u32 (bumpL L).token) := (blk_cell s0 2).trans rfl
    clear s0
    go_simp
    with_reducible rfl
  rotate_left
  · simp only [Act.put, List.setIfInBounds_toArray, List.set_cons_zero, List.set_cons_succ]
    rfl
  refine pure_ (i := 5) (N := some 193) (v := ?_) (a' := ?_) #[true, true, true, true, true, true, false, false, false, false, false, false, false, false, false, false, false, false, false] rfl rfl (by kernel_rfl) (fun _ _ _ h => h) (Or.inl ⟨by rfl, ?_⟩) ?_ ?_
  rotate_left
  · intro w'
    go_simp
    with_reducible rfl
  rotate_left
  · simp only [Act.put, List.setIfInBounds_toArray, List.set_cons_zero, List.set_cons_succ]
    rfl
  refine pure_ (i := 6) (N := some 194) (v := ?_) (a' := ?_) #[true, true, true, true, true, true, true, false, false, false, false, false, false, false, false, false, false, false, false] rfl rfl (by kernel_rfl) (fun _ _ _ h => h) (Or.inl ⟨by rfl, ?_⟩) ?_ ?_
  rotate_left
  · intro w'
    go_simp
    with_reducible rfl
  rotate_left
  · simp only [Act.put, List.setIfInBounds_toArray, List.set_cons_zero, List.set_cons_succ]
    rfl
  refine pure_ (i := 7) (N := some 195) (v := ?_) (a' := ?_) #[true, true, true, true, true, true, true, true, false, false, false, false, false, false, false, false, false, false, false] rfl rfl (by kernel_rfl) (fun _ _ _ h => h) (Or.inl ⟨by rfl, ?_⟩) ?_ ?_
  rotate_left
  · intro w'
    go_simp
    with_reducible rfl
  rotate_left
  · simp only [Act.put, List.setIfInBounds_toArray, List.set_cons_zero, List.set_cons_succ]
    rfl
  refine take_ (i := 8) (N := some 196) (v := ?_) (a' := ?_) #[true, true, true, true, true, true, true, true, true, false, false, false, false, false, false, false, false, false, false] rfl rfl (by kernel_rfl) (fun _ _ _ h => h) (Or.inl ⟨by rfl, ?_⟩) hHeld ?_ ?_
  rotate_left
  · intro w' s0
    have hc3 : w'.cell? ⟨g, 3, none⟩ = some (.int .u32 (bumpL L).boot) := (blk_cell s0 3).trans rfl
    clear s0
    go_simp
    with_reducible rfl
  rotate_left
  · simp only [Act.put, List.setIfInBounds_toArray, List.set_cons_zero, List.set_cons_succ]
    rfl
  refine pure_ (i := 9) (N := some 197) (v := ?_) (a' := ?_) #[true, true, true, true, true, true, true, true, true, true, false, false, false, false, false, false, false, false, false] rfl rfl (by kernel_rfl) (fun _ _ _ h => h) (Or.inl ⟨by rfl, ?_⟩) ?_ ?_
  rotate_left
  · intro w'
    go_simp
    with_reducible rfl
  rotate_left
  · simp only [Act.put, List.setIfInBounds_toArray, List.set_cons_zero, List.set_cons_succ]
    rfl
  refine pure_ (i := 10) (N := some 198) (v := ?_) (a' := ?_) #[true, true, true, true, true, true, true, true, true, true, true, false, false, false, false, false, false, false, false] rfl rfl (by kernel_rfl) (fun _ _ _ h => h) (Or.inl ⟨by rfl, ?_⟩) ?_ ?_
  rotate_left
  · intro w'
    go_simp
    with_reducible rfl
  rotate_left
  · simp only [Act.put, List.setIfInBounds_toArray, List.set_cons_zero, List.set_cons_succ]
    rfl
  refine pure_ (i := 11) (N := some 199) (v := ?_) (a' := ?_) #[true, true, true, true, true, true, true, true, true, true, true, true, false, false, false, false, false, false, false] rfl rfl (by kernel_rfl) (fun _ _ _ h => h) (Or.inl ⟨by rfl, ?_⟩) ?_ ?_
  rotate_left
  · intro w'
    go_simp
    with_reducible rfl
  rotate_left
  · simp only [Act.put, List.setIfInBounds_toArray, List.set_cons_zero, List.set_cons_succ]
    rfl
  refine take_ (i := 12) (N := some 200) (v := ?_) (a' := ?_) #[true, true, true, true, true, true, true, true, true, true, true, true, true, false, false, false, false, false, false] rfl rfl (by kernel_rfl) (fun _ _ _ h => h) (Or.inl ⟨by rfl, ?_⟩) hHeld ?_ ?_
  rotate_left
  · intro w' s0
    have hc4 : w'.cell? ⟨g, 4, none⟩ = some (.int .u32 (bumpL L).yours) := (blk_cell s0 4).trans rfl
    clear s0
    go_simp
    with_reducible rfl
  rotate_left
  · simp only [Act.put, List.setIfInBounds_toArray, List.set_cons_zero, List.set_cons_succ]
    rfl
  refine pure_ (i := 13) (N := some 201) (v := ?_) (a' := ?_) #[true, true, true, true, true, true, true, true, true, true, true, true, true, true, false, false, false, false, false] rfl rfl (by kernel_rfl) (fun _ _ _ h => h) (Or.inl ⟨by rfl, ?_⟩) ?_ ?_
  rotate_left
  · intro w'
    go_simp
    with_reducible rfl
  rotate_left
  · simp only [Act.put, List.setIfInBounds_toArray, List.set_cons_zero, List.set_cons_succ]
    rfl
  refine pure_ (i := 14) (N := some 202) (v := ?_) (a' := ?_) #[true, true, true, true, true, true, true, true, true, true, true, true, true, true, true, false, false, false, false] rfl rfl (by kernel_rfl) (fun _ _ _ h => h) (Or.inl ⟨by rfl, ?_⟩) ?_ ?_
  rotate_left
  · intro w'
    go_simp
    with_reducible rfl
  rotate_left
  · simp only [Act.put, List.setIfInBounds_toArray, List.set_cons_zero, List.set_cons_succ]
    rfl
  refine pure_ (i := 15) (N := some 203) (v := ?_) (a' := ?_) #[true, true, true, true, true, true, true, true, true, true, true, true, true, true, true, true, false, false, false] rfl rfl (by kernel_rfl) (fun _ _ _ h => h) (Or.inl ⟨by rfl, ?_⟩) ?_ ?_
  rotate_left
  · intro w'
    go_simp
    with_reducible rfl
  rotate_left
  · simp only [Act.put, List.setIfInBounds_toArray, List.set_cons_zero, List.set_cons_succ]
    rfl
  refine take_ (i := 16) (N := some 204) (v := ?_) (a' := ?_) #[true, true, true, true, true, true, true, true, true, true, true, true, true, true, true, true, true, false, false] rfl rfl (by kernel_rfl) (fun _ _ _ h => h) (Or.inl ⟨by rfl, ?_⟩) hHeld ?_ ?_
  rotate_left
  · intro w' s0
    have hc9 : w'.cell? ⟨g, 9, none⟩ = some (.int .u32 (bumpL L).expected) := (blk_cell s0 9).trans rfl
    clear s0
    go_simp
    with_reducible rfl
  rotate_left
  · simp only [Act.put, List.setIfInBounds_toArray, List.set_cons_zero, List.set_cons_succ]
    rfl
  refine pure_ (i := 17) (N := some 205) (v := ?_) (a' := ?_) #[true, true, true, true, true, true, true, true, true, true, true, true, true, true, true, true, true, true, false] rfl rfl (by kernel_rfl) (fun _ _ _ h => h) (Or.inl ⟨by rfl, ?_⟩) ?_ ?_
  rotate_left
  · intro w'
    have hu27 := Try.underlying27
    go_simp
    rfl
  rotate_left
  · simp only [Act.put, List.setIfInBounds_toArray, List.set_cons_zero, List.set_cons_succ]
    rfl
  refine last_ (i := 18) (N := some 206) #[true, true, true, true, true, true, true, true, true, true, true, true, true, true, true, true, true, true, true] rfl rfl (by kernel_rfl) (by decide) (fun K hK => ?_)
  refine goes_ Try.func80 (by kernel_rfl) rfl #[.pointer (some ⟨g, 0, none⟩), .agg #[.int .i64 3, .int .u32 (bumpL L).token, .int .u32 (bumpL L).boot, .int .u32 (bumpL L).yours, .int .u32 0, .int .u32 (bumpL L).expected, .int .u32 0, .int .u32 0, .complex .f64 0 0, .slice none 0 0]] (by rfl) rfl rfl (by (try simp only [List.map_toArray, List.map_cons, List.map_nil]); first | done | rfl) ?_
  refine HC9.out.mono ?_
  rintro e w_K7 ⟨rfl, hE⟩
  obtain ⟨oko_K7, o_K7, hF⟩ := TS.emits KY6.out hB hE
  have K7 := Lib.hid hF
  clear hE hF
  refine ⟨_, rfl, ?_⟩
  refine hK.out _ _ ?_
  clear hK K
  refine done_ (by kernel_rfl) ?_
  go_wp2_with fail
  refine wp_label ?_
  go_wp2_with (first | ((with_reducible refine gate_dst (N := 207) rfl ?_); (refine wpList_load_row rfl 56 (.tmp 6) rfl (w.heap.size + 1) (by rfl) 56 _ (0, 0) _ (by first | exact K7.out.tb | exact (K7.out.drewN hB _).tb) Try.underlying56 rfl (by kernel_rfl) ?_)) | ((with_reducible refine gate_ (.store 56 (.tmp 6) (.tmp 207)) rfl ?_); (refine store_row_F rfl rfl 56 (.tmp 6) (.tmp 207) rfl (w.heap.size + 1) _ rfl rfl 56 _ (by first | exact K7.out.tb | exact (K7.out.drewN hB _).tb) (by kernel_rfl) rfl (by kernel_rfl) ?_); (intro w_K8 hb9 hat9); (have hF := TS.setT (by first | exact K7.out | exact K7.out.drewN hB _ | exact K7.out.drew hB) hB hat9 hb9 (by first | exact K7.out.brow | exact (K7.out.drewN hB _).brow) (by first | exact K7.out.okb | exact (K7.out.drewN hB _).okb)); (have K8 := Lib.hid hF); (clear hF hb9 hat9)))
  refine Jump.ret ?_
  refine bodyPost_ret ?_ rfl (K8.out.ends)
  exact results_cell2 Try.results34 _ _ rfl rfl (run_loadVar_row (P := Try.prog) _ (w.heap.size + 1) 56 56 _ (0, 0) _ K8.out.tb Try.underlying56 rfl (by kernel_rfl))
set_option maxRecDepth 100000 in
set_option maxHeartbeats 4000000 in
theorem take_up11b {w : World} {B g : Nat} {okq oko S : Nat → Prop} {L : Lk} {q o : Value} (h : At w B okq oko g L q o) (hok : L.Ok) (hS : ∀ k, holds okq oko g k → S k) (hB : B ≤ w.heap.size) (boot : Int) (p : Pkt) (Ab : Option Addr) (cb : Nat)
    (hb0 : boot ≠ 0) (hbr : 0 ≤ boot ∧ boot < 4294967296) (hpr : p.Rng) (hck : checkP p.kind p.mine p.boot p.yours p.seq p.ack p.stamp p.echo p.zr p.zi p.body.length = 0)  (hph : L.phase = 2) (hag : ageF L boot p.mine = 0) (hmn : meantF L p = true) (hpl : p.body.length ≤ 1000) {okp : Nat → Prop} (hR : (Kd.int .u8).R 5 w B okp (.slice Ab p.body.length cb) p.body) (hkp : ∀ k, okp k → ¬ S k) (kn : Nat) (hkk : IntKind.u32.wrap (p.ack - L.base) = kn) (hkd : p.kind = 2) (hsq : p.seq = L.expected) (h1k : 1 ≤ kn) (hks : L.sent < (kn : Int)) :
    Calls Try.prog 34 #[.pointer (some ⟨g, 0, none⟩), .int .u32 boot, .agg #[.int .i64 p.kind, .int .u32 p.mine, .int .u32 p.boot, .int .u32 p.yours, .int .u32 p.seq, .int .u32 p.ack, .int .u32 p.stamp, .int .u32 p.echo, .complex .f64 p.zr p.zi, .slice Ab p.body.length cb]] w fun e w' => Took w B S g (emit_ (bumpL L) (ackP (bumpL L))) true false false p.body e w' := by
  have HG0 := Lib.hid (show (((w.alloc (.cells #[.int .i64 p.kind, .int .u32 p.mine, .int .u32 p.boot, .int .u32 p.yours, .int .u32 p.seq, .int .u32 p.ack, .int .u32 p.stamp, .int .u32 p.echo, .complex .f64 p.zr p.zi, .slice Ab p.body.length cb] 27)).alloc (.cells #[.bool false, .bool false, .bool false, .slice none 0 0] 56))).heap[w.heap.size]? = some (.cells #[.int .i64 p.kind, .int .u32 p.mine, .int .u32 p.boot, .int .u32 p.yours, .int .u32 p.seq, .int .u32 p.ack, .int .u32 p.stamp, .int .u32 p.echo, .complex .f64 p.zr p.zi, .slice Ab p.body.length cb] 27 (0, 0)) from (Below.heap_alloc _ _ _ (by simp)).trans (heap_alloc_new w _))
  have H := Lib.hid h
  have OK := Lib.hid hok
  have HS := Lib.hid hS
  have HPR := Lib.hid hpr
  have HCK := Lib.hid hck
  have hbz : (boot == 0) = false := by simp [hb0]
  have HPH := Lib.hid hph
  clear hph
  have HAG := Lib.hid hag
  clear hag
  have HKD := Lib.hid hkd
  clear hkd
  clear hbr
  have HMN := Lib.hid hmn
  clear hmn
  have HRP := Lib.hid hR
  have HKP := Lib.hid hkp
  have HPL := Lib.hid hpl
  clear hR hkp hpl
  have HKK := Lib.hid hkk
  clear hkk
  have hlb := OK.out.sent
  have hqb := OK.out.queue
  have hd6 : (p.seq == L.expected) = true := by simp [hsq]
  clear hsq
  have hd7 : decide ((kn : Int) ≥ 1) = true := by simp; omega
  have hd8 : decide ((kn : Int) ≤ L.sent) = false := by simp; omega
  have hw8 : IntKind.u32.wrap L.sent = L.sent := by rw [wrapU]; omega
  clear h1k
  have HKS := Lib.hid hks
  clear hks
  clear h hok hS hpr hck hb0
  go_enter Try.func34, Try.ntmps34
  go_wp2_with fail
  refine wp_scope_hid 3 (fun C HC => ?_)
  go_wp2_with (first | ((with_reducible refine gate_dst (N := 17) rfl ?_); (refine wpList_load_row rfl 27 (.tmp 5) rfl w.heap.size (by rfl) 27 #[.int .i64 p.kind, .int .u32 p.mine, .int .u32 p.boot, .int .u32 p.yours, .int .u32 p.seq, .int .u32 p.ack, .int .u32 p.stamp, .int .u32 p.echo, .complex .f64 p.zr p.zi, .slice Ab p.body.length cb] (0, 0) _ HG0.out Try.underlying27 rfl (by kernel_rfl) ?_)) | (go_at_call 20; (refine (check_any _ _ _ _ _ _ _ _ _ _ _ _ _ _ HPR.out.zr HPR.out.zi).mono ?_); (rintro e w_K0 ⟨rfl, hb⟩); (rw [HCK.out]); (have K0 := Lib.hid (TS.start (pc := #[.int .i64 p.kind, .int .u32 p.mine, .int .u32 p.boot, .int .u32 p.yours, .int .u32 p.seq, .int .u32 p.ack, .int .u32 p.stamp, .int .u32 p.echo, .complex .f64 p.zr p.zi, .slice Ab p.body.length cb]) H.out HS.out hB (hb.mono (by simp)))); (clear hb); (have hl1 : w_K0.cell? ⟨g, 1, none⟩ = some (.int .i64 2) := (blk_cell K0.out.at_.blk 1).trans (congrArg (fun x => some (Value.int .i64 x)) HPH.out)); (have hp0 : w_K0.cell? ⟨w.heap.size, 0, none⟩ = some (.int .i64 2) := (blk_cell K0.out.pb 0).trans (congrArg (fun x => some (Value.int .i64 x)) HKD.out)); (have hp1 : w_K0.cell? ⟨w.heap.size, 1, none⟩ = some (.int .u32 p.mine) := (blk_cell K0.out.pb 1).trans rfl)) | (go_at_call 76; (refine (age_of K0.out.at_ boot p.mine).mono ?_); (rintro e w1 ⟨rfl, rfl⟩); (rw [HAG.out])) | ((with_reducible refine gate_dst (N := 59) rfl ?_); (refine gate_guard (by rfl) ?_); (refine wpList_load_row rfl 27 (.tmp 5) rfl w.heap.size (by rfl) 27 _ (0, 0) _ (by first | exact K0.out.pb | exact (K0.out.drewN hB _).pb) Try.underlying27 rfl (by kernel_rfl) ?_)) | (go_at_call 77; (refine (meant_of K0.out.at_ p (.slice Ab p.body.length cb)).mono ?_); (rintro e w_K1 ⟨rfl, hb⟩); (have hme : meantF (L) p = true := HMN.out); (rw [hme]); (clear hme); (have K1 := Lib.hid (K0.out.sub hB hb)); (clear hb); (clear hl1 hp0 hp1)) | ((with_reducible refine gate_ (.store 4 (.tmp 62) (.const (.bool true))) rfl ?_); (refine store_F (fun wz => TS w B S g #[.int .i64 p.kind, .int .u32 p.mine, .int .u32 p.boot, .int .u32 p.yours, .int .u32 p.seq, .int .u32 p.ack, .int .u32 p.stamp, .int .u32 p.echo, .complex .f64 p.zr p.zi, .slice Ab p.body.length cb] okq oko (fun _ => False) (L) q o true false false (.slice none 0 0) [] wz) rfl rfl ⟨_, (by have hz1 : World.cell? w_K1 ⟨w.heap.size + 1, 0, none⟩ = some _ := (blk_cell K1.out.tb 0).trans rfl; have hz2 := blk_frozen K1.out.tb 0; first | (go_simp; done) | (go_simp; rfl)), TS.setT1 K1.out hB 0 _ rfl⟩ (fun w_K2 hF => ?_)); (have K2 := Lib.hid hF); (clear hF); (have hl9 : w_K2.cell? ⟨g, 9, none⟩ = some (.int .u32 L.expected) := (blk_cell K2.out.at_.blk 9).trans rfl); (have hp0 : w_K2.cell? ⟨w.heap.size, 0, none⟩ = some (.int .i64 2) := (blk_cell K2.out.pb 0).trans (congrArg (fun x => some (Value.int .i64 x)) HKD.out)); (have hp4 : w_K2.cell? ⟨w.heap.size, 4, none⟩ = some (.int .u32 p.seq) := (blk_cell K2.out.pb 4).trans rfl)))
  refine wp_goto ?_
  refine Jump.goto HC.out rfl ?_
  go_wp2_with fail
  go_quiet (fail)
  rename Nat => nqq1
  go_wp2_with (first | ((with_reducible refine gate_ (.store 24 (.tmp 131) (.tmp 129)) rfl ?_); (refine store_F (fun wz => TS w B S g #[.int .i64 p.kind, .int .u32 p.mine, .int .u32 p.boot, .int .u32 p.yours, .int .u32 p.seq, .int .u32 p.ack, .int .u32 p.stamp, .int .u32 p.echo, .complex .f64 p.zr p.zi, .slice Ab p.body.length cb] okq oko (fun _ => False) (bumpL L) q o true false false (.slice none 0 0) [] wz) rfl rfl ⟨_, (by have hz1 : World.cell? w_K2 ⟨g, 9, none⟩ = some _ := (blk_cell K2.out.at_.blk 9).trans rfl; have hz2 := blk_frozen K2.out.at_.blk 9; first | (go_simp; done) | (go_simp; rfl)), TS.setL1 (K2.out.drewN hB nqq1) hB 9 _ rfl rfl rfl⟩ (fun w_K3 hF => ?_)); (have K3 := Lib.hid hF); (clear hF); (clear hl9 hp0 hp4); (have hp9 : w_K3.cell? ⟨w.heap.size, 9, none⟩ = some (.slice Ab p.body.length cb) := (blk_cell K3.out.pb 9).trans rfl)) | ((with_reducible refine gate_dst (N := 134) rfl ?_); (refine Kd.R_append_rows (Kd.int .u8) (Rr := fun x cs => cs = [Value.int .u8 x]) (w0 := w) (W := w_K3) B rfl (.const (.slice none 0 0)) (.tmp 133) 22 5 (.int .u8 0) 1 rfl Try.underlying22 info5' rfl (by decide) (by decide) (.slice none 0 0) [] p.body Ab p.body.length cb (fun k => w_K3.heap.size ≤ k) (fun _ => False) rfl rfl (Kd.R_nil _ _ _ _ _) (Kd.R_reads' (Kd.R_kept HRP.out K3.out.kept HKP.out)).2.2 (fun _ _ hx => hx) (fun _ hf => hf.elim) (fun k hk => hk) K3.out.below (Nat.le_trans hB K3.out.kept.1) (by have := HPL.out; simp; omega) ?_); (intro v1 w_K4 hR hbl hg _); (obtain ⟨A1, c1, hv1⟩ := Kd.R_slice hR); (subst hv1); (have hF := TS.grow K3.out hB (⟨hg.os, hg.tape, hg.output, hg.size, fun k hk => hg.block k hk (by simp [Value.ownBlock])⟩ : Below w_K3.heap.size w_K3 w_K4) hR); (have K4 := Lib.hid hF.1); (have HRV := Lib.hid hF.2); (clear hF hR hbl hg); (clear hp9)) | ((with_reducible refine gate_ (.store 22 (.tmp 135) (.tmp 134)) rfl ?_); (refine store_F (fun wz => TS w B S g #[.int .i64 p.kind, .int .u32 p.mine, .int .u32 p.boot, .int .u32 p.yours, .int .u32 p.seq, .int .u32 p.ack, .int .u32 p.stamp, .int .u32 p.echo, .complex .f64 p.zr p.zi, .slice Ab p.body.length cb] okq oko (fun k => w_K3.heap.size ≤ k ∧ k < w_K4.heap.size) (bumpL L) q o true false false ((.slice A1 ([] ++ p.body).length c1)) p.body wz) rfl rfl ⟨_, (by have hz1 : World.cell? w_K4 ⟨w.heap.size + 1, 3, none⟩ = some _ := (blk_cell K4.out.tb 3).trans rfl; have hz2 := blk_frozen K4.out.tb 3; first | (go_simp; done) | (go_simp; rfl)), K4.out.setT hB (Steps.At.set (Steps.At.refl _ _) 3 _) (blk_put K4.out.tb 3 _ rfl) HRV.out.1 HRV.out.2⟩ (fun w_K5 hF => ?_)); (have K5 := Lib.hid hF); (clear hF); (have hl8 : w_K5.cell? ⟨g, 8, none⟩ = some (.int .u32 L.base) := (blk_cell K5.out.at_.blk 8).trans rfl); (have hl7 : w_K5.cell? ⟨g, 7, none⟩ = some (.int .i64 L.sent) := (blk_cell K5.out.at_.blk 7).trans rfl); (have hp5 : w_K5.cell? ⟨w.heap.size, 5, none⟩ = some (.int .u32 p.ack) := (blk_cell K5.out.pb 5).trans rfl); (have hp0 : w_K5.cell? ⟨w.heap.size, 0, none⟩ = some (.int .i64 2) := (blk_cell K5.out.pb 0).trans (congrArg (fun x => some (Value.int .i64 x)) HKD.out))))
  go_quiet ((go_at_call 79; refine (ahead_of _ _ _).mono fun _ _ hq => ⟨hq.1.trans (congrArg (fun x => Ending.returned (.int .u32 x)) HKK.out), _, hq.2.symm⟩))
  rename Nat => nqq2
  go_wp2_with fail
  have hSS : (w_K5.drewN nqq2).drew.heap[g]? = some (.cells (row (bumpL L) q o) 131 (0, 0)) := (K5.out.drewN hB nqq2).at_.blk
  have hts := (K5.out.drewN hB nqq2).drew hB
  clear hl8 hl7 hp5 hp0
  refine start_ (n := 19) (S := fun w' => w'.heap[g]? = some (.cells (row (bumpL L) q o) 131 (0, 0))) (ds := [18]) #[false, false, false, false, false, false, false, false, false, false, false, false, false, false, false, false, false, false, false] (by kernel_rfl) rfl rfl (hSS) (fun hHeld => ?_)
  generalize (w_K5.drewN nqq2).drew = w_Y6 at hts hHeld ⊢
  have KY6 := Lib.hid hts
  clear hts hSS
  have HC9 := Lib.hid (emit_of (⟨3, (bumpL L).token, (bumpL L).boot, (bumpL L).yours, 0, (bumpL L).expected, 0, 0, 0, 0, []⟩ : Pkt) (.slice none 0 0) KY6.out.at_ (bump_ok OK.out) (Nat.le_trans hB KY6.out.kept.1) (okp := fun _ => False) (pkt_M.2 ⟨_, rfl, Kd.R_nil _ _ _ _ _⟩) (fun _ hk => hk.elim))
  refine pure_ (i := 0) (N := some 188) (v := ?_) (a' := ?_) #[true, false, false, false, false, false, false, false, false, false, false, false, false, false, false, false, false, false, false] rfl rfl (by kernel_rfl) (fun _ _ _ h => h) (Or.inl ⟨by rfl, ?_⟩) ?_ ?_
  rotate_left
  · intro w'
    go_simp
    with_reducible rfl
  rotate_left
  · simp only [Act.put, List.setIfInBounds_toArray, List.set_cons_zero, List.set_cons_succ]
    rfl
  refine pure_ (i := 1) (N := some 189) (v := ?_) (a' := ?_) #[true, true, false, false, false, false, false, false, false, false, false, false, false, false, false, false, false, false, false] rfl rfl (by kernel_rfl) (fun _ _ _ h => h) (Or.inl ⟨by rfl, ?_⟩) ?_ ?_
  rotate_left
  · intro w'
    go_simp
    with_reducible rfl
  rotate_left
  · simp only [Act.put, List.setIfInBounds_toArray, List.set_cons_zero, List.set_cons_succ]
    rfl
  refine pure_ (i := 2) (N := some 190) (v := ?_) (a' := ?_) #[true, true, true, false, false, false, false, false, false, false, false, false, false, false, false, false, false, false, false] rfl rfl (by kernel_rfl) (fun _ _ _ h => h) (Or.inl ⟨by rfl, ?_⟩) ?_ ?_
  rotate_left
  · intro w'
    go_simp
    with_reducible rfl
  rotate_left
  · simp only [Act.put, List.setIfInBounds_toArray, List.set_cons_zero, List.set_cons_succ]
    rfl
  refine pure_ (i := 3) (N := some 191) (v := ?_) (a' := ?_) #[true, true, true, true, false, false, false, false, false, false, false, false, false, false, false, false, false, false, false] rfl rfl (by kernel_rfl) (fun _ _ _ h => h) (Or.inl ⟨by rfl, ?_⟩) ?_ ?_
  rotate_left
  · intro w'
    go_simp
    with_reducible rfl
  rotate_left
  · simp only [Act.put, List.setIfInBounds_toArray, List.set_cons_zero, List.set_cons_succ]
    rfl
  refine take_ (i := 4) (N := some 192) (v := ?_) (a' := ?_) #[true, true, true, true, true, false, false, false, false, false, false, false, false, false, false, false, false, false, false] rfl rfl (by kernel_rfl) (fun _ _ _ h => h) (Or.inl ⟨by rfl, ?_⟩) hHeld ?_ ?_
  rotate_left
  · intro w' s0
    have hc2 : w'.cell? ⟨g, 2, none⟩ = some (.int .u32 (bumpL L).token) := (blk_cell s0 2).trans rfl
    clear s0
    go_simp
    with_reducible rfl
  rotate_left
  · simp only [Act.put, List.setIfInBounds_toArray, List.set_cons_zero, List.set_cons_succ]
    rfl
  refine pure_ (i := 5) (N := some 193) (v := ?_) (a' := ?_) #[true, true, true, true, true, true, false, false, false, false, false, false, false, false, false, false, false, false, false] rfl rfl (by kernel_rfl) (fun _ _ _ h => h) (Or.inl ⟨by rfl, ?_⟩) ?_ ?_
  rotate_left
  · intro w'
    go_simp
    with_reducible rfl
  rotate_left
  · simp only [Act.put, List.setIfInBounds_toArray, List.set_cons_zero, List.set_cons_succ]
    rfl
  refine pure_ (i := 6) (N := some 194) (v := ?_) (a' := ?_) #[true, true, true, true, true, true, true, false, false, false, false, false, false, false, false, false, false, false, false] rfl rfl (by kernel_rfl) (fun _ _ _ h => h) (Or.inl ⟨by rfl, ?_⟩) ?_ ?_
  rotate_left
  · intro w'
    go_simp
    with_reducible rfl
  rotate_left
  · simp only [Act.put, List.setIfInBounds_toArray, List.set_cons_zero, List.set_cons_succ]
    rfl
  refine pure_ (i := 7) (N := some 195) (v := ?_) (a' := ?_) #[true, true, true, true, true, true, true, true, false, false, false, false, false, false, false, false, false, false, false] rfl rfl (by kernel_rfl) (fun _ _ _ h => h) (Or.inl ⟨by rfl, ?_⟩) ?_ ?_
  rotate_left
  · intro w'
    go_simp
    with_reducible rfl
  rotate_left
  · simp only [Act.put, List.setIfInBounds_toArray, List.set_cons_zero, List.set_cons_succ]
    rfl
  refine take_ (i := 8) (N := some 196) (v := ?_) (a' := ?_) #[true, true, true, true, true, true, true, true, true, false, false, false, false, false, false, false, false, false, false] rfl rfl (by kernel_rfl) (fun _ _ _ h => h) (Or.inl ⟨by rfl, ?_⟩) hHeld ?_ ?_
  rotate_left
  · intro w' s0
    have hc3 : w'.cell? ⟨g, 3, none⟩ = some (.int .u32 (bumpL L).boot) := (blk_cell s0 3).trans rfl
    clear s0
    go_simp
    with_reducible rfl
  rotate_left
  · simp only [Act.put, List.setIfInBounds_toArray, List.set_cons_zero, List.set_cons_succ]
    rfl
  refine pure_ (i := 9) (N := some 197) (v := ?_) (a' := ?_) #[true, true, true, true, true, true, true, true, true, true, false, false, false, false, false, false, false, false, false] rfl rfl (by kernel_rfl) (fun _ _ _ h => h) (Or.inl ⟨by rfl, ?_⟩) ?_ ?_
  rotate_left
  · intro w'
    go_simp
    with_reducible rfl
  rotate_left
  · simp only [Act.put, List.setIfInBounds_toArray, List.set_cons_zero, List.set_cons_succ]
    rfl
  refine pure_ (i := 10) (N := some 198) (v := ?_) (a' := ?_) #[true, true, true, true, true, true, true, true, true, true, true, false, false, false, false, false, false, false, false] rfl rfl (by kernel_rfl) (fun _ _ _ h => h) (Or.inl ⟨by rfl, ?_⟩) ?_ ?_
  rotate_left
  · intro w'
    go_simp
    with_reducible rfl
  rotate_left
  · simp only [Act.put, List.setIfInBounds_toArray, List.set_cons_zero, List.set_cons_succ]
    rfl
  refine pure_ (i := 11) (N := some 199) (v := ?_) (a' := ?_) #[true, true, true, true, true, true, true, true, true, true, true, true, false, false, false, false, false, false, false] rfl rfl (by kernel_rfl) (fun _ _ _ h => h) (Or.inl ⟨by rfl, ?_⟩) ?_ ?_
  rotate_left
  · intro w'
    go_simp
    with_reducible rfl
  rotate_left
  · simp only [Act.put, List.setIfInBounds_toArray, List.set_cons_zero, List.set_cons_succ]
    rfl
  refine take_ (i := 12) (N := some 200) (v := ?_) (a' := ?_) #[true, true, true, true, true, true, true, true, true, true, true, true, true, false, false, false, false, false, false] rfl rfl (by kernel_rfl) (fun _ _ _ h => h) (Or.inl ⟨by rfl, ?_⟩) hHeld ?_ ?_
  rotate_left
  · intro w' s0
    have hc4 : w'.cell? ⟨g, 4, none⟩ = some (.int .u32 (bumpL L).yours) := (blk_cell s0 4).trans rfl
    clear s0
    go_simp
    with_reducible rfl
  rotate_left
  · simp only [Act.put, List.setIfInBounds_toArray, List.set_cons_zero, List.set_cons_succ]
    rfl
  refine pure_ (i := 13) (N := some 201) (v := ?_) (a' := ?_) #[true, true, true, true, true, true, true, true, true, true, true, true, true, true, false, false, false, false, false] rfl rfl (by kernel_rfl) (fun _ _ _ h => h) (Or.inl ⟨by rfl, ?_⟩) ?_ ?_
  rotate_left
  · intro w'
    go_simp
    with_reducible rfl
  rotate_left
  · simp only [Act.put, List.setIfInBounds_toArray, List.set_cons_zero, List.set_cons_succ]
    rfl
  refine pure_ (i := 14) (N := some 202) (v := ?_) (a' := ?_) #[true, true, true, true, true, true, true, true, true, true, true, true, true, true, true, false, false, false, false] rfl rfl (by kernel_rfl) (fun _ _ _ h => h) (Or.inl ⟨by rfl, ?_⟩) ?_ ?_
  rotate_left
  · intro w'
    go_simp
    with_reducible rfl
  rotate_left
  · simp only [Act.put, List.setIfInBounds_toArray, List.set_cons_zero, List.set_cons_succ]
    rfl
  refine pure_ (i := 15) (N := some 203) (v := ?_) (a' := ?_) #[true, true, true, true, true, true, true, true, true, true, true, true, true, true, true, true, false, false, false] rfl rfl (by kernel_rfl) (fun _ _ _ h => h) (Or.inl ⟨by rfl, ?_⟩) ?_ ?_
  rotate_left
  · intro w'
    go_simp
    with_reducible rfl
  rotate_left
  · simp only [Act.put, List.setIfInBounds_toArray, List.set_cons_zero, List.set_cons_succ]
    rfl
  refine take_ (i := 16) (N := some 204) (v := ?_) (a' := ?_) #[true, true, true, true, true, true, true, true, true, true, true, true, true, true, true, true, true, false, false] rfl rfl (by kernel_rfl) (fun _ _ _ h => h) (Or.inl ⟨by rfl, ?_⟩) hHeld ?_ ?_
  rotate_left
  · intro w' s0
    have hc9 : w'.cell? ⟨g, 9, none⟩ = some (.int .u32 (bumpL L).expected) := (blk_cell s0 9).trans rfl
    clear s0
    go_simp
    with_reducible rfl
  rotate_left
  · simp only [Act.put, List.setIfInBounds_toArray, List.set_cons_zero, List.set_cons_succ]
    rfl
  refine pure_ (i := 17) (N := some 205) (v := ?_) (a' := ?_) #[true, true, true, true, true, true, true, true, true, true, true, true, true, true, true, true, true, true, false] rfl rfl (by kernel_rfl) (fun _ _ _ h => h) (Or.inl ⟨by rfl, ?_⟩) ?_ ?_
  rotate_left
  · intro w'
    have hu27 := Try.underlying27
    go_simp
    rfl
  rotate_left
  · simp only [Act.put, List.setIfInBounds_toArray, List.set_cons_zero, List.set_cons_succ]
    rfl
  refine last_ (i := 18) (N := some 206) #[true, true, true, true, true, true, true, true, true, true, true, true, true, true, true, true, true, true, true] rfl rfl (by kernel_rfl) (by decide) (fun K hK => ?_)
  refine goes_ Try.func80 (by kernel_rfl) rfl #[.pointer (some ⟨g, 0, none⟩), .agg #[.int .i64 3, .int .u32 (bumpL L).token, .int .u32 (bumpL L).boot, .int .u32 (bumpL L).yours, .int .u32 0, .int .u32 (bumpL L).expected, .int .u32 0, .int .u32 0, .complex .f64 0 0, .slice none 0 0]] (by rfl) rfl rfl (by (try simp only [List.map_toArray, List.map_cons, List.map_nil]); first | done | rfl) ?_
  refine HC9.out.mono ?_
  rintro e w_K7 ⟨rfl, hE⟩
  obtain ⟨oko_K7, o_K7, hF⟩ := TS.emits KY6.out hB hE
  have K7 := Lib.hid hF
  clear hE hF
  refine ⟨_, rfl, ?_⟩
  refine hK.out _ _ ?_
  clear hK K
  refine done_ (by kernel_rfl) ?_
  go_wp2_with fail
  refine wp_label ?_
  go_wp2_with (first | ((with_reducible refine gate_dst (N := 207) rfl ?_); (refine wpList_load_row rfl 56 (.tmp 6) rfl (w.heap.size + 1) (by rfl) 56 _ (0, 0) _ (by first | exact K7.out.tb | exact (K7.out.drewN hB _).tb) Try.underlying56 rfl (by kernel_rfl) ?_)) | ((with_reducible refine gate_ (.store 56 (.tmp 6) (.tmp 207)) rfl ?_); (refine store_row_F rfl rfl 56 (.tmp 6) (.tmp 207) rfl (w.heap.size + 1) _ rfl rfl 56 _ (by first | exact K7.out.tb | exact (K7.out.drewN hB _).tb) (by kernel_rfl) rfl (by kernel_rfl) ?_); (intro w_K8 hb9 hat9); (have hF := TS.setT (by first | exact K7.out | exact K7.out.drewN hB _ | exact K7.out.drew hB) hB hat9 hb9 (by first | exact K7.out.brow | exact (K7.out.drewN hB _).brow) (by first | exact K7.out.okb | exact (K7.out.drewN hB _).okb)); (have K8 := Lib.hid hF); (clear hF hb9 hat9)))
  refine Jump.ret ?_
  refine bodyPost_ret ?_ rfl (K8.out.ends)
  exact results_cell2 Try.results34 _ _ rfl rfl (run_loadVar_row (P := Try.prog) _ (w.heap.size + 1) 56 56 _ (0, 0) _ K8.out.tb Try.underlying56 rfl (by kernel_rfl))
end Go.Proofs.Ytnkkgofpifhoeaa.Lk
