/- What the laws of a pair are proved with: links and pairs in memory, what their methods do, what a pair keeps to (part 3). -/
import Derived.Test.YtnkkgofpifhoeaaPD2
import Derived.Deep.MidRow
set_option linter.unusedSimpArgs false
set_option linter.unusedVariables false
section
namespace Go.Proofs.Ytnkkgofpifhoeaa.Lk
open Go.RowKit Go.Proofs.Ytnkkgofpifhoeaa.Base Go.Proofs.Ytnkkgofpifhoeaa.Steps Go.Proofs.Ytnkkgofpifhoeaa.Pk Go.Proofs.Ytnkkgofpifhoeaa.Jmp Go.Proofs.YtnkkgofpifhoeaaW.PrintWords Go.Proofs.YtnkkgofpifhoeaaW.PrintLast
set_option maxRecDepth 100000 in
set_option maxHeartbeats 4000000 in
theorem take_up11a {w:World} {B g:Nat} {okq oko S:Nat → Prop} {L:Lk} {q o:Value} (h:At w B okq oko g L q o) (hok:L.Ok) (hS:∀ k,holds okq oko g k → S k) (hB:B ≤ w.heap.size) (boot:Int) (p:Pkt) (Ab:Option Addr) (cb:Nat)
  (hb0:boot ≠ 0) (hbr:0 ≤ boot ∧ boot < 4294967296) (hpr:p.Rng) (hck:checkP p.kind p.mine p.boot p.yours p.seq p.ack p.stamp p.echo p.zr p.zi p.body.length = 0)  (hph:L.phase = 2) (hag:ageF L boot p.mine = 0) (hmn:meantF L p = true) (hpl:p.body.length ≤ 1000) {okp:Nat → Prop} (hR:(Kd.int .u8).R 5 w B okp (.slice Ab p.body.length cb) p.body) (hkp:∀ k,okp k → ¬ S k) (kn:Nat) (hkk:IntKind.u32.wrap (p.ack - L.base) = kn) (hkd:p.kind = 2) (hsq:p.seq = L.expected) (h1k:1 ≤ kn) (hks:(kn:Int) ≤ L.sent) :
  Calls Try.prog 34 #[.pointer (some ⟨g,0,none⟩),.int .u32 boot,.agg #[.int .i64 p.kind,.int .u32 p.mine,.int .u32 p.boot,.int .u32 p.yours,.int .u32 p.seq,.int .u32 p.ack,.int .u32 p.stamp,.int .u32 p.echo,.complex .f64 p.zr p.zi,.slice Ab p.body.length cb]] w fun e w' => Took w B S g (emit_ (fill_ (cutL (bumpL L) kn)) (ackP (fill_ (cutL (bumpL L) kn)))) true false false p.body e w':=by
 have HG0:=Lib.hid (show (((w.alloc (.cells #[.int .i64 p.kind,.int .u32 p.mine,.int .u32 p.boot,.int .u32 p.yours,.int .u32 p.seq,.int .u32 p.ack,.int .u32 p.stamp,.int .u32 p.echo,.complex .f64 p.zr p.zi,.slice Ab p.body.length cb] 27)).alloc (.cells #[.bool false,.bool false,.bool false,.slice none 0 0] 56))).heap[w.heap.size]? = some (.cells #[.int .i64 p.kind,.int .u32 p.mine,.int .u32 p.boot,.int .u32 p.yours,.int .u32 p.seq,.int .u32 p.ack,.int .u32 p.stamp,.int .u32 p.echo,.complex .f64 p.zr p.zi,.slice Ab p.body.length cb] 27 (0,0)) from (Below.heap_alloc _ _ _ (by simp)).trans (heap_alloc_new w _))
 have H:=Lib.hid h
 have OK:=Lib.hid hok
 have HS:=Lib.hid hS
 have HPR:=Lib.hid hpr
 have HCK:=Lib.hid hck
 have hbz:(boot == 0) = false:=by simp [hb0]
 have HPH:=Lib.hid hph
 clear hph
 have HAG:=Lib.hid hag
 clear hag
 have HKD:=Lib.hid hkd
 clear hkd
 clear hbr
 have HMN:=Lib.hid hmn
 clear hmn
 have HRP:=Lib.hid hR
 have HKP:=Lib.hid hkp
 have HPL:=Lib.hid hpl
 clear hR hkp hpl
 have HKK:=Lib.hid hkk
 clear hkk
 have hlb:=OK.out.sent
 have hqb:=OK.out.queue
 have hd6:(p.seq == L.expected) = true:=by simp [hsq]
 clear hsq
 have hd7:decide ((kn:Int) ≥ 1) = true:=by simp; omega
 have hd8:decide ((kn:Int) ≤ L.sent) = true:=by simp; omega
 have hw8:IntKind.u32.wrap L.sent = L.sent:=by rw [wrapU]; omega
 clear h1k
 have HKS:=Lib.hid hks
 clear hks
 obtain ⟨A6,c6,hq6,hl6⟩:=Kd.Q_slice h.queue
 subst hq6
 have HKQ:=Lib.hid (show kn ≤ L.queue.length by have:=HKS.out; omega)
 have hsl:=slice45 A6 L.queue.length c6 kn HKQ.out hl6
 obtain ⟨A7,hA7⟩:∃ A,A = (if c6 = kn then A6 else A6.map (·.add (kn * bytes.sz))):=⟨_,rfl⟩
 rw [← hA7] at hsl
 have HA7:=Lib.hid hA7
 clear hA7
 clear hl6
 have hkq:=HKQ.out
 generalize hqn:L.queue.length = qn at H hsl hkq hlb hqb
 have HQN:=Lib.hid hqn
 clear hqn
 have hc4:kn < 4294967296:=by omega
 clear h hok hS hpr hck hb0
 go_enter Try.func34,Try.ntmps34
 go_wp2_with fail
 refine wp_scope_hid 3 (fun C HC => ?_)
 go_wp2_with (first | ((with_reducible refine gate_dst (N:=17) rfl ?_); (refine wpList_load_row rfl 27 (.tmp 5) rfl w.heap.size (by rfl) 27 #[.int .i64 p.kind,.int .u32 p.mine,.int .u32 p.boot,.int .u32 p.yours,.int .u32 p.seq,.int .u32 p.ack,.int .u32 p.stamp,.int .u32 p.echo,.complex .f64 p.zr p.zi,.slice Ab p.body.length cb] (0,0) _ HG0.out Try.underlying27 rfl (by kernel_rfl) ?_)) | (go_at_call 20; (refine (check_any _ _ _ _ _ _ _ _ _ _ _ _ _ _ HPR.out.zr HPR.out.zi).mono ?_); (rintro e w_K0 ⟨rfl,hb⟩); (rw [HCK.out]); (have K0:=Lib.hid (TS.start (pc:=#[.int .i64 p.kind,.int .u32 p.mine,.int .u32 p.boot,.int .u32 p.yours,.int .u32 p.seq,.int .u32 p.ack,.int .u32 p.stamp,.int .u32 p.echo,.complex .f64 p.zr p.zi,.slice Ab p.body.length cb]) H.out HS.out hB (hb.mono (by simp)))); (clear hb); (have hl1:w_K0.cell? ⟨g,1,none⟩ = some (.int .i64 2):=(blk_cell K0.out.at_.blk 1).trans (congrArg (fun x => some (Value.int .i64 x)) HPH.out)); (have hp0:w_K0.cell? ⟨w.heap.size,0,none⟩ = some (.int .i64 2):=(blk_cell K0.out.pb 0).trans (congrArg (fun x => some (Value.int .i64 x)) HKD.out)); (have hp1:w_K0.cell? ⟨w.heap.size,1,none⟩ = some (.int .u32 p.mine):=(blk_cell K0.out.pb 1).trans rfl)) | (go_at_call 76; (refine (age_of K0.out.at_ boot p.mine).mono ?_); (rintro e w1 ⟨rfl,rfl⟩); (rw [HAG.out])) | ((with_reducible refine gate_dst (N:=59) rfl ?_); (refine gate_guard (by rfl) ?_); (refine wpList_load_row rfl 27 (.tmp 5) rfl w.heap.size (by rfl) 27 _ (0,0) _ (by first | exact K0.out.pb | exact (K0.out.drewN hB _).pb) Try.underlying27 rfl (by kernel_rfl) ?_)) | (go_at_call 77; (refine (meant_of K0.out.at_ p (.slice Ab p.body.length cb)).mono ?_); (rintro e w_K1 ⟨rfl,hb⟩); (have hme:meantF (L) p = true:=HMN.out); (rw [hme]); (clear hme); (have K1:=Lib.hid (K0.out.sub hB hb)); (clear hb); (clear hl1 hp0 hp1)) | ((with_reducible refine gate_ (.store 4 (.tmp 62) (.const (.bool true))) rfl ?_); (refine store_F (fun wz => TS w B S g #[.int .i64 p.kind,.int .u32 p.mine,.int .u32 p.boot,.int .u32 p.yours,.int .u32 p.seq,.int .u32 p.ack,.int .u32 p.stamp,.int .u32 p.echo,.complex .f64 p.zr p.zi,.slice Ab p.body.length cb] okq oko (fun _ => False) (L) (.slice A6 qn c6) o true false false (.slice none 0 0) [] wz) rfl rfl ⟨_,(by have hz1:World.cell? w_K1 ⟨w.heap.size + 1,0,none⟩ = some _:=(blk_cell K1.out.tb 0).trans rfl; have hz2:=blk_frozen K1.out.tb 0; first | (go_simp; done) | (go_simp; rfl)),TS.setT1 K1.out hB 0 _ rfl⟩ (fun w_K2 hF => ?_)); (have K2:=Lib.hid hF); (clear hF); (have hl9:w_K2.cell? ⟨g,9,none⟩ = some (.int .u32 L.expected):=(blk_cell K2.out.at_.blk 9).trans rfl); (have hp0:w_K2.cell? ⟨w.heap.size,0,none⟩ = some (.int .i64 2):=(blk_cell K2.out.pb 0).trans (congrArg (fun x => some (Value.int .i64 x)) HKD.out)); (have hp4:w_K2.cell? ⟨w.heap.size,4,none⟩ = some (.int .u32 p.seq):=(blk_cell K2.out.pb 4).trans rfl)))
 refine wp_goto ?_
 refine Jump.goto HC.out rfl ?_
 go_wp2_with fail
 go_quiet (fail)
 rename Nat => nqq1
 go_wp2_with (first | ((with_reducible refine gate_ (.store 24 (.tmp 131) (.tmp 129)) rfl ?_); (refine store_F (fun wz => TS w B S g #[.int .i64 p.kind,.int .u32 p.mine,.int .u32 p.boot,.int .u32 p.yours,.int .u32 p.seq,.int .u32 p.ack,.int .u32 p.stamp,.int .u32 p.echo,.complex .f64 p.zr p.zi,.slice Ab p.body.length cb] okq oko (fun _ => False) (bumpL L) (.slice A6 qn c6) o true false false (.slice none 0 0) [] wz) rfl rfl ⟨_,(by have hz1:World.cell? w_K2 ⟨g,9,none⟩ = some _:=(blk_cell K2.out.at_.blk 9).trans rfl; have hz2:=blk_frozen K2.out.at_.blk 9; first | (go_simp; done) | (go_simp; rfl)),TS.setL1 (K2.out.drewN hB nqq1) hB 9 _ rfl rfl rfl⟩ (fun w_K3 hF => ?_)); (have K3:=Lib.hid hF); (clear hF); (clear hl9 hp0 hp4); (have hp9:w_K3.cell? ⟨w.heap.size,9,none⟩ = some (.slice Ab p.body.length cb):=(blk_cell K3.out.pb 9).trans rfl)) | ((with_reducible refine gate_dst (N:=134) rfl ?_); (refine Kd.R_append_rows (Kd.int .u8) (Rr:=fun x cs => cs = [Value.int .u8 x]) (w0:=w) (W:=w_K3) B rfl (.const (.slice none 0 0)) (.tmp 133) 22 5 (.int .u8 0) 1 rfl Try.underlying22 info5' rfl (by decide) (by decide) (.slice none 0 0) [] p.body Ab p.body.length cb (fun k => w_K3.heap.size ≤ k) (fun _ => False) rfl rfl (Kd.R_nil _ _ _ _ _) (Kd.R_reads' (Kd.R_kept HRP.out K3.out.kept HKP.out)).2.2 (fun _ _ hx => hx) (fun _ hf => hf.elim) (fun k hk => hk) K3.out.below (Nat.le_trans hB K3.out.kept.1) (by have:=HPL.out; simp; omega) ?_); (intro v1 w_K4 hR hbl hg _); (obtain ⟨A1,c1,hv1⟩:=Kd.R_slice hR); (subst hv1); (have hF:=TS.grow K3.out hB (⟨hg.os,hg.tape,hg.output,hg.size,fun k hk => hg.block k hk (by simp [Value.ownBlock])⟩:Below w_K3.heap.size w_K3 w_K4) hR); (have K4:=Lib.hid hF.1); (have HRV:=Lib.hid hF.2); (clear hF hR hbl hg); (clear hp9)) | ((with_reducible refine gate_ (.store 22 (.tmp 135) (.tmp 134)) rfl ?_); (refine store_F (fun wz => TS w B S g #[.int .i64 p.kind,.int .u32 p.mine,.int .u32 p.boot,.int .u32 p.yours,.int .u32 p.seq,.int .u32 p.ack,.int .u32 p.stamp,.int .u32 p.echo,.complex .f64 p.zr p.zi,.slice Ab p.body.length cb] okq oko (fun k => w_K3.heap.size ≤ k ∧ k < w_K4.heap.size) (bumpL L) (.slice A6 qn c6) o true false false ((.slice A1 ([] ++ p.body).length c1)) p.body wz) rfl rfl ⟨_,(by have hz1:World.cell? w_K4 ⟨w.heap.size + 1,3,none⟩ = some _:=(blk_cell K4.out.tb 3).trans rfl; have hz2:=blk_frozen K4.out.tb 3; first | (go_simp; done) | (go_simp; rfl)),K4.out.setT hB (Steps.At.set (Steps.At.refl _ _) 3 _) (blk_put K4.out.tb 3 _ rfl) HRV.out.1 HRV.out.2⟩ (fun w_K5 hF => ?_)); (have K5:=Lib.hid hF); (clear hF); (have hl8:w_K5.cell? ⟨g,8,none⟩ = some (.int .u32 L.base):=(blk_cell K5.out.at_.blk 8).trans rfl); (have hl6:w_K5.cell? ⟨g,6,none⟩ = some ((.slice A6 qn c6)):=(blk_cell K5.out.at_.blk 6).trans rfl); (have hl7:w_K5.cell? ⟨g,7,none⟩ = some (.int .i64 L.sent):=(blk_cell K5.out.at_.blk 7).trans rfl); (have hp5:w_K5.cell? ⟨w.heap.size,5,none⟩ = some (.int .u32 p.ack):=(blk_cell K5.out.pb 5).trans rfl); (have hp0:w_K5.cell? ⟨w.heap.size,0,none⟩ = some (.int .i64 2):=(blk_cell K5.out.pb 0).trans (congrArg (fun x => some (Value.int .i64 x)) HKD.out))))
 go_quiet ((go_at_call 79; refine (ahead_of _ _ _).mono fun _ _ hq => ⟨hq.1.trans (congrArg (fun x => Ending.returned (.int .u32 x)) HKK.out),_,hq.2.symm⟩))
 rename Nat => nqq2
 go_wp2_with (first | ((with_reducible refine gate_ (.store 45 (.tmp 162) (.tmp 160)) rfl ?_); (refine store_F (fun wz => TS w B S g #[.int .i64 p.kind,.int .u32 p.mine,.int .u32 p.boot,.int .u32 p.yours,.int .u32 p.seq,.int .u32 p.ack,.int .u32 p.stamp,.int .u32 p.echo,.complex .f64 p.zr p.zi,.slice Ab p.body.length cb] okq oko (fun k => w_K3.heap.size ≤ k ∧ k < w_K4.heap.size) ({ bumpL L with queue:=(bumpL L).queue.drop kn }) (.slice A7 (qn - kn) (c6 - kn)) o true false false ((.slice A1 ([] ++ p.body).length c1)) p.body wz) rfl rfl ⟨_,(by have hz1:World.cell? w_K5 ⟨g,6,none⟩ = some _:=(blk_cell K5.out.at_.blk 6).trans rfl; have hz2:=blk_frozen K5.out.at_.blk 6; first | (go_simp; done) | (go_simp; rfl)),TS.cut (K5.out.drewN hB nqq2) hB rfl HKQ.out HA7.out⟩ (fun w_K6 hF => ?_)); (have K6:=Lib.hid hF); (clear hF); (clear hl8 hl6 hl7 hp5 hp0); (have hl8:w_K6.cell? ⟨g,8,none⟩ = some (.int .u32 L.base):=(blk_cell K6.out.at_.blk 8).trans rfl); (have hl7:w_K6.cell? ⟨g,7,none⟩ = some (.int .i64 L.sent):=(blk_cell K6.out.at_.blk 7).trans rfl); (have hp0:w_K6.cell? ⟨w.heap.size,0,none⟩ = some (.int .i64 2):=(blk_cell K6.out.pb 0).trans (congrArg (fun x => some (Value.int .i64 x)) HKD.out))) | ((with_reducible refine gate_ (.store 24 (.tmp 170) (.tmp 168)) rfl ?_); (have hT:TS w B S g #[.int .i64 p.kind,.int .u32 p.mine,.int .u32 p.boot,.int .u32 p.yours,.int .u32 p.seq,.int .u32 p.ack,.int .u32 p.stamp,.int .u32 p.echo,.complex .f64 p.zr p.zi,.slice Ab p.body.length cb] okq oko (fun k => w_K3.heap.size ≤ k ∧ k < w_K4.heap.size) ({ bumpL L with queue:=(bumpL L).queue.drop kn,base:=IntKind.u32.wrap (L.base + kn) }) (.slice A7 (qn - kn) (c6 - kn)) o true false false ((.slice A1 ([] ++ p.body).length c1)) p.body (World.setCell w_K6 ⟨g,8,none⟩ (.int .u32 (IntKind.u32.wrap (L.base + kn)))):=TS.setL1 K6.out hB 8 (.int .u32 (IntKind.u32.wrap (L.base + kn))) rfl rfl rfl); (refine store_F (fun wz => TS w B S g #[.int .i64 p.kind,.int .u32 p.mine,.int .u32 p.boot,.int .u32 p.yours,.int .u32 p.seq,.int .u32 p.ack,.int .u32 p.stamp,.int .u32 p.echo,.complex .f64 p.zr p.zi,.slice Ab p.body.length cb] okq oko (fun k => w_K3.heap.size ≤ k ∧ k < w_K4.heap.size) ({ bumpL L with queue:=(bumpL L).queue.drop kn,base:=IntKind.u32.wrap (L.base + kn) }) (.slice A7 (qn - kn) (c6 - kn)) o true false false ((.slice A1 ([] ++ p.body).length c1)) p.body wz) rfl rfl ⟨_,(by have hz1:World.cell? w_K6 ⟨g,8,none⟩ = some _:=(blk_cell K6.out.at_.blk 8).trans rfl; have hz2:=blk_frozen K6.out.at_.blk 8; first | (go_simp; done) | (go_simp; rfl)),hT⟩ (fun w_K7 hF => ?_)); (have K7:=Lib.hid hF); (clear hF hT); (clear hl8 hl7 hp0); (have hl7:w_K7.cell? ⟨g,7,none⟩ = some (.int .i64 L.sent):=(blk_cell K7.out.at_.blk 7).trans rfl); (have hp0:w_K7.cell? ⟨w.heap.size,0,none⟩ = some (.int .i64 2):=(blk_cell K7.out.pb 0).trans (congrArg (fun x => some (Value.int .i64 x)) HKD.out))) | ((with_reducible refine gate_ (.store 3 (.tmp 179) (.tmp 177)) rfl ?_); (have hT:TS w B S g #[.int .i64 p.kind,.int .u32 p.mine,.int .u32 p.boot,.int .u32 p.yours,.int .u32 p.seq,.int .u32 p.ack,.int .u32 p.stamp,.int .u32 p.echo,.complex .f64 p.zr p.zi,.slice Ab p.body.length cb] okq oko (fun k => w_K3.heap.size ≤ k ∧ k < w_K4.heap.size) ({ bumpL L with queue:=(bumpL L).queue.drop kn,base:=IntKind.u32.wrap (L.base + kn),sent:=L.sent - kn }) (.slice A7 (qn - kn) (c6 - kn)) o true false false ((.slice A1 ([] ++ p.body).length c1)) p.body (World.setCell w_K7 ⟨g,7,none⟩ (.int .i64 (L.sent - kn))):=TS.setL1 K7.out hB 7 (.int .i64 (L.sent - kn)) rfl rfl rfl); (refine store_F (fun wz => TS w B S g #[.int .i64 p.kind,.int .u32 p.mine,.int .u32 p.boot,.int .u32 p.yours,.int .u32 p.seq,.int .u32 p.ack,.int .u32 p.stamp,.int .u32 p.echo,.complex .f64 p.zr p.zi,.slice Ab p.body.length cb] okq oko (fun k => w_K3.heap.size ≤ k ∧ k < w_K4.heap.size) ({ bumpL L with queue:=(bumpL L).queue.drop kn,base:=IntKind.u32.wrap (L.base + kn),sent:=L.sent - kn }) (.slice A7 (qn - kn) (c6 - kn)) o true false false ((.slice A1 ([] ++ p.body).length c1)) p.body wz) rfl rfl ⟨_,(by have hz1:World.cell? w_K7 ⟨g,7,none⟩ = some _:=(blk_cell K7.out.at_.blk 7).trans rfl; have hz2:=blk_frozen K7.out.at_.blk 7; first | (go_simp; done) | (go_simp; rfl)),hT⟩ (fun w_K8 hF => ?_)); (have K8:=Lib.hid hF); (clear hF hT); (clear hl7 hp0); (have hp0:w_K8.cell? ⟨w.heap.size,0,none⟩ = some (.int .i64 2):=(blk_cell K8.out.pb 0).trans (congrArg (fun x => some (Value.int .i64 x)) HKD.out))) | ((with_reducible refine gate_ (.store 3 (.tmp 182) (.const (.int .i64 0))) rfl ?_); (have hT:TS w B S g #[.int .i64 p.kind,.int .u32 p.mine,.int .u32 p.boot,.int .u32 p.yours,.int .u32 p.seq,.int .u32 p.ack,.int .u32 p.stamp,.int .u32 p.echo,.complex .f64 p.zr p.zi,.slice Ab p.body.length cb] okq oko (fun k => w_K3.heap.size ≤ k ∧ k < w_K4.heap.size) (cutL (bumpL L) kn) (.slice A7 (qn - kn) (c6 - kn)) o true false false ((.slice A1 ([] ++ p.body).length c1)) p.body (World.setCell w_K8 ⟨g,10,none⟩ (.int .i64 0)):=TS.setL1 K8.out hB 10 (.int .i64 0) rfl rfl rfl); (refine store_F (fun wz => TS w B S g #[.int .i64 p.kind,.int .u32 p.mine,.int .u32 p.boot,.int .u32 p.yours,.int .u32 p.seq,.int .u32 p.ack,.int .u32 p.stamp,.int .u32 p.echo,.complex .f64 p.zr p.zi,.slice Ab p.body.length cb] okq oko (fun k => w_K3.heap.size ≤ k ∧ k < w_K4.heap.size) (cutL (bumpL L) kn) (.slice A7 (qn - kn) (c6 - kn)) o true false false ((.slice A1 ([] ++ p.body).length c1)) p.body wz) rfl rfl ⟨_,(by have hz1:World.cell? w_K8 ⟨g,10,none⟩ = some _:=(blk_cell K8.out.at_.blk 10).trans rfl; have hz2:=blk_frozen K8.out.at_.blk 10; first | (go_simp; done) | (go_simp; rfl)),hT⟩ (fun w_K9 hF => ?_)); (have K9:=Lib.hid hF); (clear hF hT); (clear hp0); (have hp0:w_K9.cell? ⟨w.heap.size,0,none⟩ = some (.int .i64 2):=(blk_cell K9.out.pb 0).trans (congrArg (fun x => some (Value.int .i64 x)) HKD.out))) | (go_at_call 74; (refine (fill_of K9.out.at_ (cut_ok (bump_ok OK.out) HKS.out) (Nat.le_trans hB K9.out.kept.1)).mono ?_); (rintro e w_K10 ⟨rfl,hE⟩); (obtain ⟨oko_K10,o_K10,hF⟩:=TS.emits K9.out hB hE); (clear hE); (have K10:=Lib.hid hF); (clear hF); (clear hp0); (have hp0:w_K10.cell? ⟨w.heap.size,0,none⟩ = some (.int .i64 2):=(blk_cell K10.out.pb 0).trans (congrArg (fun x => some (Value.int .i64 x)) HKD.out))))
 have hSS:w_K10.drew.heap[g]? = some (.cells (row (fill_ (cutL (bumpL L) kn)) (.slice A7 (qn - kn) (c6 - kn)) o_K10) 131 (0,0)):=K10.out.at_.blk
 have hts:=K10.out.drew hB
 clear hp0
 refine start_ (n:=19) (S:=fun w' => w'.heap[g]? = some (.cells (row (fill_ (cutL (bumpL L) kn)) (.slice A7 (qn - kn) (c6 - kn)) o_K10) 131 (0,0))) (ds:=[18]) M0g (by kernel_rfl) rfl rfl (hSS) (fun hHeld => ?_)
 generalize w_K10.drew = w_Y11 at hts hHeld ⊢
 have KY11:=Lib.hid hts
 clear hts hSS
 have HC9:=Lib.hid (emit_of (⟨3,(fill_ (cutL (bumpL L) kn)).token,(fill_ (cutL (bumpL L) kn)).boot,(fill_ (cutL (bumpL L) kn)).yours,0,(fill_ (cutL (bumpL L) kn)).expected,0,0,0,0,[]⟩:Pkt) (.slice none 0 0) KY11.out.at_ (fill_ok (cut_ok (bump_ok OK.out) HKS.out)) (Nat.le_trans hB KY11.out.kept.1) (okp:=fun _ => False) (pkt_M.2 ⟨_,rfl,Kd.R_nil _ _ _ _ _⟩) (fun _ hk => hk.elim))
 refine pure_ (i:=0) (N:=some 188) (v:=?_) (a':=?_) M0h rfl rfl (by kernel_rfl) (fun _ _ _ h => h) (Or.inl ⟨by rfl,?_⟩) ?_ ?_
 rotate_left
 ·intro w'
  go_simp
  with_reducible rfl
 rotate_left
 ·simp only [Act.put,sA,sZ,sS]
  rfl
 refine pure_ (i:=1) (N:=some 189) (v:=?_) (a':=?_) M0i rfl rfl (by kernel_rfl) (fun _ _ _ h => h) (Or.inl ⟨by rfl,?_⟩) ?_ ?_
 rotate_left
 ·intro w'
  go_simp
  with_reducible rfl
 rotate_left
 ·simp only [Act.put,sA,sZ,sS]
  rfl
 refine pure_ (i:=2) (N:=some 190) (v:=?_) (a':=?_) M0j rfl rfl (by kernel_rfl) (fun _ _ _ h => h) (Or.inl ⟨by rfl,?_⟩) ?_ ?_
 rotate_left
 ·intro w'
  go_simp
  with_reducible rfl
 rotate_left
 ·simp only [Act.put,sA,sZ,sS]
  rfl
 refine pure_ (i:=3) (N:=some 191) (v:=?_) (a':=?_) M0k rfl rfl (by kernel_rfl) (fun _ _ _ h => h) (Or.inl ⟨by rfl,?_⟩) ?_ ?_
 rotate_left
 ·intro w'
  go_simp
  with_reducible rfl
 rotate_left
 ·simp only [Act.put,sA,sZ,sS]
  rfl
 refine take_ (i:=4) (N:=some 192) (v:=?_) (a':=?_) M0l rfl rfl (by kernel_rfl) (fun _ _ _ h => h) (Or.inl ⟨by rfl,?_⟩) hHeld ?_ ?_
 rotate_left
 ·intro w' s0
  have hc2:w'.cell? ⟨g,2,none⟩ = some (.int .u32 (fill_ (cutL (bumpL L) kn)).token):=(blk_cell s0 2).trans rfl
  clear s0
  go_simp
  with_reducible rfl
 rotate_left
 ·simp only [Act.put,sA,sZ,sS]
  rfl
 refine pure_ (i:=5) (N:=some 193) (v:=?_) (a':=?_) M0m rfl rfl (by kernel_rfl) (fun _ _ _ h => h) (Or.inl ⟨by rfl,?_⟩) ?_ ?_
 rotate_left
 ·intro w'
  go_simp
  with_reducible rfl
 rotate_left
 ·simp only [Act.put,sA,sZ,sS]
  rfl
 refine pure_ (i:=6) (N:=some 194) (v:=?_) (a':=?_) M0n rfl rfl (by kernel_rfl) (fun _ _ _ h => h) (Or.inl ⟨by rfl,?_⟩) ?_ ?_
 rotate_left
 ·intro w'
  go_simp
  with_reducible rfl
 rotate_left
 ·simp only [Act.put,sA,sZ,sS]
  rfl
 refine pure_ (i:=7) (N:=some 195) (v:=?_) (a':=?_) M0o rfl rfl (by kernel_rfl) (fun _ _ _ h => h) (Or.inl ⟨by rfl,?_⟩) ?_ ?_
 rotate_left
 ·intro w'
  go_simp
  with_reducible rfl
 rotate_left
 ·simp only [Act.put,sA,sZ,sS]
  rfl
 refine take_ (i:=8) (N:=some 196) (v:=?_) (a':=?_) M0p rfl rfl (by kernel_rfl) (fun _ _ _ h => h) (Or.inl ⟨by rfl,?_⟩) hHeld ?_ ?_
 rotate_left
 ·intro w' s0
  have hc3:w'.cell? ⟨g,3,none⟩ = some (.int .u32 (fill_ (cutL (bumpL L) kn)).boot):=(blk_cell s0 3).trans rfl
  clear s0
  go_simp
  with_reducible rfl
 rotate_left
 ·simp only [Act.put,sA,sZ,sS]
  rfl
 refine pure_ (i:=9) (N:=some 197) (v:=?_) (a':=?_) M0q rfl rfl (by kernel_rfl) (fun _ _ _ h => h) (Or.inl ⟨by rfl,?_⟩) ?_ ?_
 rotate_left
 ·intro w'
  go_simp
  with_reducible rfl
 rotate_left
 ·simp only [Act.put,sA,sZ,sS]
  rfl
 refine pure_ (i:=10) (N:=some 198) (v:=?_) (a':=?_) M0r rfl rfl (by kernel_rfl) (fun _ _ _ h => h) (Or.inl ⟨by rfl,?_⟩) ?_ ?_
 rotate_left
 ·intro w'
  go_simp
  with_reducible rfl
 rotate_left
 ·simp only [Act.put,sA,sZ,sS]
  rfl
 refine pure_ (i:=11) (N:=some 199) (v:=?_) (a':=?_) M0s rfl rfl (by kernel_rfl) (fun _ _ _ h => h) (Or.inl ⟨by rfl,?_⟩) ?_ ?_
 rotate_left
 ·intro w'
  go_simp
  with_reducible rfl
 rotate_left
 ·simp only [Act.put,sA,sZ,sS]
  rfl
 refine take_ (i:=12) (N:=some 200) (v:=?_) (a':=?_) M0t rfl rfl (by kernel_rfl) (fun _ _ _ h => h) (Or.inl ⟨by rfl,?_⟩) hHeld ?_ ?_
 rotate_left
 ·intro w' s0
  have hc4:w'.cell? ⟨g,4,none⟩ = some (.int .u32 (fill_ (cutL (bumpL L) kn)).yours):=(blk_cell s0 4).trans rfl
  clear s0
  go_simp
  with_reducible rfl
 rotate_left
 ·simp only [Act.put,sA,sZ,sS]
  rfl
 refine pure_ (i:=13) (N:=some 201) (v:=?_) (a':=?_) M0u rfl rfl (by kernel_rfl) (fun _ _ _ h => h) (Or.inl ⟨by rfl,?_⟩) ?_ ?_
 rotate_left
 ·intro w'
  go_simp
  with_reducible rfl
 rotate_left
 ·simp only [Act.put,sA,sZ,sS]
  rfl
 refine pure_ (i:=14) (N:=some 202) (v:=?_) (a':=?_) M0v rfl rfl (by kernel_rfl) (fun _ _ _ h => h) (Or.inl ⟨by rfl,?_⟩) ?_ ?_
 rotate_left
 ·intro w'
  go_simp
  with_reducible rfl
 rotate_left
 ·simp only [Act.put,sA,sZ,sS]
  rfl
 refine pure_ (i:=15) (N:=some 203) (v:=?_) (a':=?_) M0w rfl rfl (by kernel_rfl) (fun _ _ _ h => h) (Or.inl ⟨by rfl,?_⟩) ?_ ?_
 rotate_left
 ·intro w'
  go_simp
  with_reducible rfl
 rotate_left
 ·simp only [Act.put,sA,sZ,sS]
  rfl
 refine take_ (i:=16) (N:=some 204) (v:=?_) (a':=?_) M0x rfl rfl (by kernel_rfl) (fun _ _ _ h => h) (Or.inl ⟨by rfl,?_⟩) hHeld ?_ ?_
 rotate_left
 ·intro w' s0
  have hc9:w'.cell? ⟨g,9,none⟩ = some (.int .u32 (fill_ (cutL (bumpL L) kn)).expected):=(blk_cell s0 9).trans rfl
  clear s0
  go_simp
  with_reducible rfl
 rotate_left
 ·simp only [Act.put,sA,sZ,sS]
  rfl
 refine pure_ (i:=17) (N:=some 205) (v:=?_) (a':=?_) M0y rfl rfl (by kernel_rfl) (fun _ _ _ h => h) (Or.inl ⟨by rfl,?_⟩) ?_ ?_
 rotate_left
 ·intro w'
  have hu27:=Try.underlying27
  go_simp
  rfl
 rotate_left
 ·simp only [Act.put,sA,sZ,sS]
  rfl
 refine last_ (i:=18) (N:=some 206) M0z rfl rfl (by kernel_rfl) (by decide) (fun K hK => ?_)
 refine goes_ Try.func80 (by kernel_rfl) rfl #[.pointer (some ⟨g,0,none⟩),.agg #[.int .i64 3,.int .u32 (fill_ (cutL (bumpL L) kn)).token,.int .u32 (fill_ (cutL (bumpL L) kn)).boot,.int .u32 (fill_ (cutL (bumpL L) kn)).yours,.int .u32 0,.int .u32 (fill_ (cutL (bumpL L) kn)).expected,.int .u32 0,.int .u32 0,.complex .f64 0 0,.slice none 0 0]] (by rfl) rfl rfl (by (try simp only [List.map_toArray,List.map_cons,List.map_nil]); first | done | rfl) ?_
 refine HC9.out.mono ?_
 rintro e w_K12 ⟨rfl,hE⟩
 obtain ⟨oko_K12,o_K12,hF⟩:=TS.emits KY11.out hB hE
 have K12:=Lib.hid hF
 clear hE hF
 refine ⟨_,rfl,?_⟩
 refine hK.out _ _ ?_
 clear hK K
 refine done_ (by kernel_rfl) ?_
 go_wp2_with fail
 refine wp_label ?_
 go_wp2_with (first | ((with_reducible refine gate_dst (N:=207) rfl ?_); (refine wpList_load_row rfl 56 (.tmp 6) rfl (w.heap.size + 1) (by rfl) 56 _ (0,0) _ (by first | exact K12.out.tb | exact (K12.out.drewN hB _).tb) Try.underlying56 rfl (by kernel_rfl) ?_)) | ((with_reducible refine gate_ (.store 56 (.tmp 6) (.tmp 207)) rfl ?_); (refine store_row_F rfl rfl 56 (.tmp 6) (.tmp 207) rfl (w.heap.size + 1) _ rfl rfl 56 _ (by first | exact K12.out.tb | exact (K12.out.drewN hB _).tb) (by kernel_rfl) rfl (by kernel_rfl) ?_); (intro w_K13 hb9 hat9); (have hF:=TS.setT (by first | exact K12.out | exact K12.out.drewN hB _ | exact K12.out.drew hB) hB hat9 hb9 (by first | exact K12.out.brow | exact (K12.out.drewN hB _).brow) (by first | exact K12.out.okb | exact (K12.out.drewN hB _).okb)); (have K13:=Lib.hid hF); (clear hF hb9 hat9)))
 refine Jump.ret ?_
 refine bodyPost_ret ?_ rfl (K13.out.ends)
 exact results_cell2 Try.results34 _ _ rfl rfl (run_loadVar_row (P:=Try.prog) _ (w.heap.size + 1) 56 56 _ (0,0) _ K13.out.tb Try.underlying56 rfl (by kernel_rfl))
set_option maxRecDepth 100000 in
set_option maxHeartbeats 4000000 in
theorem take_up11z {w:World} {B g:Nat} {okq oko S:Nat → Prop} {L:Lk} {q o:Value} (h:At w B okq oko g L q o) (hok:L.Ok) (hS:∀ k,holds okq oko g k → S k) (hB:B ≤ w.heap.size) (boot:Int) (p:Pkt) (Ab:Option Addr) (cb:Nat)
  (hb0:boot ≠ 0) (hbr:0 ≤ boot ∧ boot < 4294967296) (hpr:p.Rng) (hck:checkP p.kind p.mine p.boot p.yours p.seq p.ack p.stamp p.echo p.zr p.zi p.body.length = 0)  (hph:L.phase = 2) (hag:ageF L boot p.mine = 0) (hmn:meantF L p = true) (hpl:p.body.length ≤ 1000) {okp:Nat → Prop} (hR:(Kd.int .u8).R 5 w B okp (.slice Ab p.body.length cb) p.body) (hkp:∀ k,okp k → ¬ S k) (kn:Nat) (hkk:IntKind.u32.wrap (p.ack - L.base) = kn) (hkd:p.kind = 2) (hsq:p.seq = L.expected) (h1k:kn = 0) :
  Calls Try.prog 34 #[.pointer (some ⟨g,0,none⟩),.int .u32 boot,.agg #[.int .i64 p.kind,.int .u32 p.mine,.int .u32 p.boot,.int .u32 p.yours,.int .u32 p.seq,.int .u32 p.ack,.int .u32 p.stamp,.int .u32 p.echo,.complex .f64 p.zr p.zi,.slice Ab p.body.length cb]] w fun e w' => Took w B S g (emit_ (bumpL L) (ackP (bumpL L))) true false false p.body e w':=by
 have HG0:=Lib.hid (show (((w.alloc (.cells #[.int .i64 p.kind,.int .u32 p.mine,.int .u32 p.boot,.int .u32 p.yours,.int .u32 p.seq,.int .u32 p.ack,.int .u32 p.stamp,.int .u32 p.echo,.complex .f64 p.zr p.zi,.slice Ab p.body.length cb] 27)).alloc (.cells #[.bool false,.bool false,.bool false,.slice none 0 0] 56))).heap[w.heap.size]? = some (.cells #[.int .i64 p.kind,.int .u32 p.mine,.int .u32 p.boot,.int .u32 p.yours,.int .u32 p.seq,.int .u32 p.ack,.int .u32 p.stamp,.int .u32 p.echo,.complex .f64 p.zr p.zi,.slice Ab p.body.length cb] 27 (0,0)) from (Below.heap_alloc _ _ _ (by simp)).trans (heap_alloc_new w _))
 have H:=Lib.hid h
 have OK:=Lib.hid hok
 have HS:=Lib.hid hS
 have HPR:=Lib.hid hpr
 have HCK:=Lib.hid hck
 have hbz:(boot == 0) = false:=by simp [hb0]
 have HPH:=Lib.hid hph
 clear hph
 have HAG:=Lib.hid hag
 clear hag
 have HKD:=Lib.hid hkd
 clear hkd
 clear hbr
 have HMN:=Lib.hid hmn
 clear hmn
 have HRP:=Lib.hid hR
 have HKP:=Lib.hid hkp
 have HPL:=Lib.hid hpl
 clear hR hkp hpl
 have HKK:=Lib.hid hkk
 clear hkk
 have hlb:=OK.out.sent
 have hqb:=OK.out.queue
 have hd6:(p.seq == L.expected) = true:=by simp [hsq]
 clear hsq
 have hd7:decide ((kn:Int) ≥ 1) = false:=by simp; omega
 clear h1k
 clear h hok hS hpr hck hb0
 go_enter Try.func34,Try.ntmps34
 go_wp2_with fail
 refine wp_scope_hid 3 (fun C HC => ?_)
 go_wp2_with (first | ((with_reducible refine gate_dst (N:=17) rfl ?_); (refine wpList_load_row rfl 27 (.tmp 5) rfl w.heap.size (by rfl) 27 #[.int .i64 p.kind,.int .u32 p.mine,.int .u32 p.boot,.int .u32 p.yours,.int .u32 p.seq,.int .u32 p.ack,.int .u32 p.stamp,.int .u32 p.echo,.complex .f64 p.zr p.zi,.slice Ab p.body.length cb] (0,0) _ HG0.out Try.underlying27 rfl (by kernel_rfl) ?_)) | (go_at_call 20; (refine (check_any _ _ _ _ _ _ _ _ _ _ _ _ _ _ HPR.out.zr HPR.out.zi).mono ?_); (rintro e w_K0 ⟨rfl,hb⟩); (rw [HCK.out]); (have K0:=Lib.hid (TS.start (pc:=#[.int .i64 p.kind,.int .u32 p.mine,.int .u32 p.boot,.int .u32 p.yours,.int .u32 p.seq,.int .u32 p.ack,.int .u32 p.stamp,.int .u32 p.echo,.complex .f64 p.zr p.zi,.slice Ab p.body.length cb]) H.out HS.out hB (hb.mono (by simp)))); (clear hb); (have hl1:w_K0.cell? ⟨g,1,none⟩ = some (.int .i64 2):=(blk_cell K0.out.at_.blk 1).trans (congrArg (fun x => some (Value.int .i64 x)) HPH.out)); (have hp0:w_K0.cell? ⟨w.heap.size,0,none⟩ = some (.int .i64 2):=(blk_cell K0.out.pb 0).trans (congrArg (fun x => some (Value.int .i64 x)) HKD.out)); (have hp1:w_K0.cell? ⟨w.heap.size,1,none⟩ = some (.int .u32 p.mine):=(blk_cell K0.out.pb 1).trans rfl)) | (go_at_call 76; (refine (age_of K0.out.at_ boot p.mine).mono ?_); (rintro e w1 ⟨rfl,rfl⟩); (rw [HAG.out])) | ((with_reducible refine gate_dst (N:=59) rfl ?_); (refine gate_guard (by rfl) ?_); (refine wpList_load_row rfl 27 (.tmp 5) rfl w.heap.size (by rfl) 27 _ (0,0) _ (by first | exact K0.out.pb | exact (K0.out.drewN hB _).pb) Try.underlying27 rfl (by kernel_rfl) ?_)) | (go_at_call 77; (refine (meant_of K0.out.at_ p (.slice Ab p.body.length cb)).mono ?_); (rintro e w_K1 ⟨rfl,hb⟩); (have hme:meantF (L) p = true:=HMN.out); (rw [hme]); (clear hme); (have K1:=Lib.hid (K0.out.sub hB hb)); (clear hb); (clear hl1 hp0 hp1)) | ((with_reducible refine gate_ (.store 4 (.tmp 62) (.const (.bool true))) rfl ?_); (refine store_F (fun wz => TS w B S g #[.int .i64 p.kind,.int .u32 p.mine,.int .u32 p.boot,.int .u32 p.yours,.int .u32 p.seq,.int .u32 p.ack,.int .u32 p.stamp,.int .u32 p.echo,.complex .f64 p.zr p.zi,.slice Ab p.body.length cb] okq oko (fun _ => False) (L) q o true false false (.slice none 0 0) [] wz) rfl rfl ⟨_,(by have hz1:World.cell? w_K1 ⟨w.heap.size + 1,0,none⟩ = some _:=(blk_cell K1.out.tb 0).trans rfl; have hz2:=blk_frozen K1.out.tb 0; first | (go_simp; done) | (go_simp; rfl)),TS.setT1 K1.out hB 0 _ rfl⟩ (fun w_K2 hF => ?_)); (have K2:=Lib.hid hF); (clear hF); (have hl9:w_K2.cell? ⟨g,9,none⟩ = some (.int .u32 L.expected):=(blk_cell K2.out.at_.blk 9).trans rfl); (have hp0:w_K2.cell? ⟨w.heap.size,0,none⟩ = some (.int .i64 2):=(blk_cell K2.out.pb 0).trans (congrArg (fun x => some (Value.int .i64 x)) HKD.out)); (have hp4:w_K2.cell? ⟨w.heap.size,4,none⟩ = some (.int .u32 p.seq):=(blk_cell K2.out.pb 4).trans rfl)))
 refine wp_goto ?_
 refine Jump.goto HC.out rfl ?_
 go_wp2_with fail
 go_quiet (fail)
 rename Nat => nqq1
 go_wp2_with (first | ((with_reducible refine gate_ (.store 24 (.tmp 131) (.tmp 129)) rfl ?_); (refine store_F (fun wz => TS w B S g #[.int .i64 p.kind,.int .u32 p.mine,.int .u32 p.boot,.int .u32 p.yours,.int .u32 p.seq,.int .u32 p.ack,.int .u32 p.stamp,.int .u32 p.echo,.complex .f64 p.zr p.zi,.slice Ab p.body.length cb] okq oko (fun _ => False) (bumpL L) q o true false false (.slice none 0 0) [] wz) rfl rfl ⟨_,(by have hz1:World.cell? w_K2 ⟨g,9,none⟩ = some _:=(blk_cell K2.out.at_.blk 9).trans rfl; have hz2:=blk_frozen K2.out.at_.blk 9; first | (go_simp; done) | (go_simp; rfl)),TS.setL1 (K2.out.drewN hB nqq1) hB 9 _ rfl rfl rfl⟩ (fun w_K3 hF => ?_)); (have K3:=Lib.hid hF); (clear hF); (clear hl9 hp0 hp4); (have hp9:w_K3.cell? ⟨w.heap.size,9,none⟩ = some (.slice Ab p.body.length cb):=(blk_cell K3.out.pb 9).trans rfl)) | ((with_reducible refine gate_dst (N:=134) rfl ?_); (refine Kd.R_append_rows (Kd.int .u8) (Rr:=fun x cs => cs = [Value.int .u8 x]) (w0:=w) (W:=w_K3) B rfl (.const (.slice none 0 0)) (.tmp 133) 22 5 (.int .u8 0) 1 rfl Try.underlying22 info5' rfl (by decide) (by decide) (.slice none 0 0) [] p.body Ab p.body.length cb (fun k => w_K3.heap.size ≤ k) (fun _ => False) rfl rfl (Kd.R_nil _ _ _ _ _) (Kd.R_reads' (Kd.R_kept HRP.out K3.out.kept HKP.out)).2.2 (fun _ _ hx => hx) (fun _ hf => hf.elim) (fun k hk => hk) K3.out.below (Nat.le_trans hB K3.out.kept.1) (by have:=HPL.out; simp; omega) ?_); (intro v1 w_K4 hR hbl hg _); (obtain ⟨A1,c1,hv1⟩:=Kd.R_slice hR); (subst hv1); (have hF:=TS.grow K3.out hB (⟨hg.os,hg.tape,hg.output,hg.size,fun k hk => hg.block k hk (by simp [Value.ownBlock])⟩:Below w_K3.heap.size w_K3 w_K4) hR); (have K4:=Lib.hid hF.1); (have HRV:=Lib.hid hF.2); (clear hF hR hbl hg); (clear hp9)) | ((with_reducible refine gate_ (.store 22 (.tmp 135) (.tmp 134)) rfl ?_); (refine store_F (fun wz => TS w B S g #[.int .i64 p.kind,.int .u32 p.mine,.int .u32 p.boot,.int .u32 p.yours,.int .u32 p.seq,.int .u32 p.ack,.int .u32 p.stamp,.int .u32 p.echo,.complex .f64 p.zr p.zi,.slice Ab p.body.length cb] okq oko (fun k => w_K3.heap.size ≤ k ∧ k < w_K4.heap.size) (bumpL L) q o true false false ((.slice A1 ([] ++ p.body).length c1)) p.body wz) rfl rfl ⟨_,(by have hz1:World.cell? w_K4 ⟨w.heap.size + 1,3,none⟩ = some _:=(blk_cell K4.out.tb 3).trans rfl; have hz2:=blk_frozen K4.out.tb 3; first | (go_simp; done) | (go_simp; rfl)),K4.out.setT hB (Steps.At.set (Steps.At.refl _ _) 3 _) (blk_put K4.out.tb 3 _ rfl) HRV.out.1 HRV.out.2⟩ (fun w_K5 hF => ?_)); (have K5:=Lib.hid hF); (clear hF); (have hl8:w_K5.cell? ⟨g,8,none⟩ = some (.int .u32 L.base):=(blk_cell K5.out.at_.blk 8).trans rfl); (have hp5:w_K5.cell? ⟨w.heap.size,5,none⟩ = some (.int .u32 p.ack):=(blk_cell K5.out.pb 5).trans rfl); (have hp0:w_K5.cell? ⟨w.heap.size,0,none⟩ = some (.int .i64 2):=(blk_cell K5.out.pb 0).trans (congrArg (fun x => some (Value.int .i64 x)) HKD.out))))
 go_quiet ((go_at_call 79; refine (ahead_of _ _ _).mono fun _ _ hq => ⟨hq.1.trans (congrArg (fun x => Ending.returned (.int .u32 x)) HKK.out),_,hq.2.symm⟩))
 rename Nat => nqq2
 go_wp2_with fail
 have hSS:(w_K5.drewN nqq2).drew.heap[g]? = some (.cells (row (bumpL L) q o) 131 (0,0)):=(K5.out.drewN hB nqq2).at_.blk
 have hts:=(K5.out.drewN hB nqq2).drew hB
 clear hl8 hp5 hp0
 refine start_ (n:=19) (S:=fun w' => w'.heap[g]? = some (.cells (row (bumpL L) q o) 131 (0,0))) (ds:=[18]) M0g (by kernel_rfl) rfl rfl (hSS) (fun hHeld => ?_)
 generalize (w_K5.drewN nqq2).drew = w_Y6 at hts hHeld ⊢
 have KY6:=Lib.hid hts
 clear hts hSS
 have HC9:=Lib.hid (emit_of (⟨3,(bumpL L).token,(bumpL L).boot,(bumpL L).yours,0,(bumpL L).expected,0,0,0,0,[]⟩:Pkt) (.slice none 0 0) KY6.out.at_ (bump_ok OK.out) (Nat.le_trans hB KY6.out.kept.1) (okp:=fun _ => False) (pkt_M.2 ⟨_,rfl,Kd.R_nil _ _ _ _ _⟩) (fun _ hk => hk.elim))
 refine pure_ (i:=0) (N:=some 188) (v:=?_) (a':=?_) M0h rfl rfl (by kernel_rfl) (fun _ _ _ h => h) (Or.inl ⟨by rfl,?_⟩) ?_ ?_
 rotate_left
 ·intro w'
  go_simp
  with_reducible rfl
 rotate_left
 ·simp only [Act.put,sA,sZ,sS]
  rfl
 refine pure_ (i:=1) (N:=some 189) (v:=?_) (a':=?_) M0i rfl rfl (by kernel_rfl) (fun _ _ _ h => h) (Or.inl ⟨by rfl,?_⟩) ?_ ?_
 rotate_left
 ·intro w'
  go_simp
  with_reducible rfl
 rotate_left
 ·simp only [Act.put,sA,sZ,sS]
  rfl
 refine pure_ (i:=2) (N:=some 190) (v:=?_) (a':=?_) M0j rfl rfl (by kernel_rfl) (fun _ _ _ h => h) (Or.inl ⟨by rfl,?_⟩) ?_ ?_
 rotate_left
 ·intro w'
  go_simp
  with_reducible rfl
 rotate_left
 ·simp only [Act.put,sA,sZ,sS]
  rfl
 refine pure_ (i:=3) (N:=some 191) (v:=?_) (a':=?_) M0k rfl rfl (by kernel_rfl) (fun _ _ _ h => h) (Or.inl ⟨by rfl,?_⟩) ?_ ?_
 rotate_left
 ·intro w'
  go_simp
  with_reducible rfl
 rotate_left
 ·simp only [Act.put,sA,sZ,sS]
  rfl
 refine take_ (i:=4) (N:=some 192) (v:=?_) (a':=?_) M0l rfl rfl (by kernel_rfl) (fun _ _ _ h => h) (Or.inl ⟨by rfl,?_⟩) hHeld ?_ ?_
 rotate_left
 ·intro w' s0
  have hc2:w'.cell? ⟨g,2,none⟩ = some (.int .u32 (bumpL L).token):=(blk_cell s0 2).trans rfl
  clear s0
  go_simp
  with_reducible rfl
 rotate_left
 ·simp only [Act.put,sA,sZ,sS]
  rfl
 refine pure_ (i:=5) (N:=some 193) (v:=?_) (a':=?_) M0m rfl rfl (by kernel_rfl) (fun _ _ _ h => h) (Or.inl ⟨by rfl,?_⟩) ?_ ?_
 rotate_left
 ·intro w'
  go_simp
  with_reducible rfl
 rotate_left
 ·simp only [Act.put,sA,sZ,sS]
  rfl
 refine pure_ (i:=6) (N:=some 194) (v:=?_) (a':=?_) M0n rfl rfl (by kernel_rfl) (fun _ _ _ h => h) (Or.inl ⟨by rfl,?_⟩) ?_ ?_
 rotate_left
 ·intro w'
  go_simp
  with_reducible rfl
 rotate_left
 ·simp only [Act.put,sA,sZ,sS]
  rfl
 refine pure_ (i:=7) (N:=some 195) (v:=?_) (a':=?_) M0o rfl rfl (by kernel_rfl) (fun _ _ _ h => h) (Or.inl ⟨by rfl,?_⟩) ?_ ?_
 rotate_left
 ·intro w'
  go_simp
  with_reducible rfl
 rotate_left
 ·simp only [Act.put,sA,sZ,sS]
  rfl
 refine take_ (i:=8) (N:=some 196) (v:=?_) (a':=?_) M0p rfl rfl (by kernel_rfl) (fun _ _ _ h => h) (Or.inl ⟨by rfl,?_⟩) hHeld ?_ ?_
 rotate_left
 ·intro w' s0
  have hc3:w'.cell? ⟨g,3,none⟩ = some (.int .u32 (bumpL L).boot):=(blk_cell s0 3).trans rfl
  clear s0
  go_simp
  with_reducible rfl
 rotate_left
 ·simp only [Act.put,sA,sZ,sS]
  rfl
 refine pure_ (i:=9) (N:=some 197) (v:=?_) (a':=?_) M0q rfl rfl (by kernel_rfl) (fun _ _ _ h => h) (Or.inl ⟨by rfl,?_⟩) ?_ ?_
 rotate_left
 ·intro w'
  go_simp
  with_reducible rfl
 rotate_left
 ·simp only [Act.put,sA,sZ,sS]
  rfl
 refine pure_ (i:=10) (N:=some 198) (v:=?_) (a':=?_) M0r rfl rfl (by kernel_rfl) (fun _ _ _ h => h) (Or.inl ⟨by rfl,?_⟩) ?_ ?_
 rotate_left
 ·intro w'
  go_simp
  with_reducible rfl
 rotate_left
 ·simp only [Act.put,sA,sZ,sS]
  rfl
 refine pure_ (i:=11) (N:=some 199) (v:=?_) (a':=?_) M0s rfl rfl (by kernel_rfl) (fun _ _ _ h => h) (Or.inl ⟨by rfl,?_⟩) ?_ ?_
 rotate_left
 ·intro w'
  go_simp
  with_reducible rfl
 rotate_left
 ·simp only [Act.put,sA,sZ,sS]
  rfl
 refine take_ (i:=12) (N:=some 200) (v:=?_) (a':=?_) M0t rfl rfl (by kernel_rfl) (fun _ _ _ h => h) (Or.inl ⟨by rfl,?_⟩) hHeld ?_ ?_
 rotate_left
 ·intro w' s0
  have hc4:w'.cell? ⟨g,4,none⟩ = some (.int .u32 (bumpL L).yours):=(blk_cell s0 4).trans rfl
  clear s0
  go_simp
  with_reducible rfl
 rotate_left
 ·simp only [Act.put,sA,sZ,sS]
  rfl
 refine pure_ (i:=13) (N:=some 201) (v:=?_) (a':=?_) M0u rfl rfl (by kernel_rfl) (fun _ _ _ h => h) (Or.inl ⟨by rfl,?_⟩) ?_ ?_
 rotate_left
 ·intro w'
  go_simp
  with_reducible rfl
 rotate_left
 ·simp only [Act.put,sA,sZ,sS]
  rfl
 refine pure_ (i:=14) (N:=some 202) (v:=?_) (a':=?_) M0v rfl rfl (by kernel_rfl) (fun _ _ _ h => h) (Or.inl ⟨by rfl,?_⟩) ?_ ?_
 rotate_left
 ·intro w'
  go_simp
  with_reducible rfl
 rotate_left
 ·simp only [Act.put,sA,sZ,sS]
  rfl
 refine pure_ (i:=15) (N:=some 203) (v:=?_) (a':=?_) M0w rfl rfl (by kernel_rfl) (fun _ _ _ h => h) (Or.inl ⟨by rfl,?_⟩) ?_ ?_
 rotate_left
 ·intro w'
  go_simp
  with_reducible rfl
 rotate_left
 ·simp only [Act.put,sA,sZ,sS]
  rfl
 refine take_ (i:=16) (N:=some 204) (v:=?_) (a':=?_) M0x rfl rfl (by kernel_rfl) (fun _ _ _ h => h) (Or.inl ⟨by rfl,?_⟩) hHeld ?_ ?_
 rotate_left
 ·intro w' s0
  have hc9:w'.cell? ⟨g,9,none⟩ = some (.int .u32 (bumpL L).expected):=(blk_cell s0 9).trans rfl
  clear s0
  go_simp
  with_reducible rfl
 rotate_left
 ·simp only [Act.put,sA,sZ,sS]
  rfl
 refine pure_ (i:=17) (N:=some 205) (v:=?_) (a':=?_) M0y rfl rfl (by kernel_rfl) (fun _ _ _ h => h) (Or.inl ⟨by rfl,?_⟩) ?_ ?_
 rotate_left
 ·intro w'
  have hu27:=Try.underlying27
  go_simp
  rfl
 rotate_left
 ·simp only [Act.put,sA,sZ,sS]
  rfl
 refine last_ (i:=18) (N:=some 206) M0z rfl rfl (by kernel_rfl) (by decide) (fun K hK => ?_)
 refine goes_ Try.func80 (by kernel_rfl) rfl #[.pointer (some ⟨g,0,none⟩),.agg #[.int .i64 3,.int .u32 (bumpL L).token,.int .u32 (bumpL L).boot,.int .u32 (bumpL L).yours,.int .u32 0,.int .u32 (bumpL L).expected,.int .u32 0,.int .u32 0,.complex .f64 0 0,.slice none 0 0]] (by rfl) rfl rfl (by (try simp only [List.map_toArray,List.map_cons,List.map_nil]); first | done | rfl) ?_
 refine HC9.out.mono ?_
 rintro e w_K7 ⟨rfl,hE⟩
 obtain ⟨oko_K7,o_K7,hF⟩:=TS.emits KY6.out hB hE
 have K7:=Lib.hid hF
 clear hE hF
 refine ⟨_,rfl,?_⟩
 refine hK.out _ _ ?_
 clear hK K
 refine done_ (by kernel_rfl) ?_
 go_wp2_with fail
 refine wp_label ?_
 go_wp2_with (first | ((with_reducible refine gate_dst (N:=207) rfl ?_); (refine wpList_load_row rfl 56 (.tmp 6) rfl (w.heap.size + 1) (by rfl) 56 _ (0,0) _ (by first | exact K7.out.tb | exact (K7.out.drewN hB _).tb) Try.underlying56 rfl (by kernel_rfl) ?_)) | ((with_reducible refine gate_ (.store 56 (.tmp 6) (.tmp 207)) rfl ?_); (refine store_row_F rfl rfl 56 (.tmp 6) (.tmp 207) rfl (w.heap.size + 1) _ rfl rfl 56 _ (by first | exact K7.out.tb | exact (K7.out.drewN hB _).tb) (by kernel_rfl) rfl (by kernel_rfl) ?_); (intro w_K8 hb9 hat9); (have hF:=TS.setT (by first | exact K7.out | exact K7.out.drewN hB _ | exact K7.out.drew hB) hB hat9 hb9 (by first | exact K7.out.brow | exact (K7.out.drewN hB _).brow) (by first | exact K7.out.okb | exact (K7.out.drewN hB _).okb)); (have K8:=Lib.hid hF); (clear hF hb9 hat9)))
 refine Jump.ret ?_
 refine bodyPost_ret ?_ rfl (K8.out.ends)
 exact results_cell2 Try.results34 _ _ rfl rfl (run_loadVar_row (P:=Try.prog) _ (w.heap.size + 1) 56 56 _ (0,0) _ K8.out.tb Try.underlying56 rfl (by kernel_rfl))
set_option maxRecDepth 100000 in
set_option maxHeartbeats 4000000 in
theorem take_up11b {w:World} {B g:Nat} {okq oko S:Nat → Prop} {L:Lk} {q o:Value} (h:At w B okq oko g L q o) (hok:L.Ok) (hS:∀ k,holds okq oko g k → S k) (hB:B ≤ w.heap.size) (boot:Int) (p:Pkt) (Ab:Option Addr) (cb:Nat)
  (hb0:boot ≠ 0) (hbr:0 ≤ boot ∧ boot < 4294967296) (hpr:p.Rng) (hck:checkP p.kind p.mine p.boot p.yours p.seq p.ack p.stamp p.echo p.zr p.zi p.body.length = 0)  (hph:L.phase = 2) (hag:ageF L boot p.mine = 0) (hmn:meantF L p = true) (hpl:p.body.length ≤ 1000) {okp:Nat → Prop} (hR:(Kd.int .u8).R 5 w B okp (.slice Ab p.body.length cb) p.body) (hkp:∀ k,okp k → ¬ S k) (kn:Nat) (hkk:IntKind.u32.wrap (p.ack - L.base) = kn) (hkd:p.kind = 2) (hsq:p.seq = L.expected) (h1k:1 ≤ kn) (hks:L.sent < (kn:Int)) :
  Calls Try.prog 34 #[.pointer (some ⟨g,0,none⟩),.int .u32 boot,.agg #[.int .i64 p.kind,.int .u32 p.mine,.int .u32 p.boot,.int .u32 p.yours,.int .u32 p.seq,.int .u32 p.ack,.int .u32 p.stamp,.int .u32 p.echo,.complex .f64 p.zr p.zi,.slice Ab p.body.length cb]] w fun e w' => Took w B S g (emit_ (bumpL L) (ackP (bumpL L))) true false false p.body e w':=by
 have HG0:=Lib.hid (show (((w.alloc (.cells #[.int .i64 p.kind,.int .u32 p.mine,.int .u32 p.boot,.int .u32 p.yours,.int .u32 p.seq,.int .u32 p.ack,.int .u32 p.stamp,.int .u32 p.echo,.complex .f64 p.zr p.zi,.slice Ab p.body.length cb] 27)).alloc (.cells #[.bool false,.bool false,.bool false,.slice none 0 0] 56))).heap[w.heap.size]? = some (.cells #[.int .i64 p.kind,.int .u32 p.mine,.int .u32 p.boot,.int .u32 p.yours,.int .u32 p.seq,.int .u32 p.ack,.int .u32 p.stamp,.int .u32 p.echo,.complex .f64 p.zr p.zi,.slice Ab p.body.length cb] 27 (0,0)) from (Below.heap_alloc _ _ _ (by simp)).trans (heap_alloc_new w _))
 have H:=Lib.hid h
 have OK:=Lib.hid hok
 have HS:=Lib.hid hS
 have HPR:=Lib.hid hpr
 have HCK:=Lib.hid hck
 have hbz:(boot == 0) = false:=by simp [hb0]
 have HPH:=Lib.hid hph
 clear hph
 have HAG:=Lib.hid hag
 clear hag
 have HKD:=Lib.hid hkd
 clear hkd
 clear hbr
 have HMN:=Lib.hid hmn
 clear hmn
 have HRP:=Lib.hid hR
 have HKP:=Lib.hid hkp
 have HPL:=Lib.hid hpl
 clear hR hkp hpl
 have HKK:=Lib.hid hkk
 clear hkk
 have hlb:=OK.out.sent
 have hqb:=OK.out.queue
 have hd6:(p.seq == L.expected) = true:=by simp [hsq]
 clear hsq
 have hd7:decide ((kn:Int) ≥ 1) = true:=by simp; omega
 have hd8:decide ((kn:Int) ≤ L.sent) = false:=by simp; omega
 have hw8:IntKind.u32.wrap L.sent = L.sent:=by rw [wrapU]; omega
 clear h1k
 have HKS:=Lib.hid hks
 clear hks
 clear h hok hS hpr hck hb0
 go_enter Try.func34,Try.ntmps34
 go_wp2_with fail
 refine wp_scope_hid 3 (fun C HC => ?_)
 go_wp2_with (first | ((with_reducible refine gate_dst (N:=17) rfl ?_); (refine wpList_load_row rfl 27 (.tmp 5) rfl w.heap.size (by rfl) 27 #[.int .i64 p.kind,.int .u32 p.mine,.int .u32 p.boot,.int .u32 p.yours,.int .u32 p.seq,.int .u32 p.ack,.int .u32 p.stamp,.int .u32 p.echo,.complex .f64 p.zr p.zi,.slice Ab p.body.length cb] (0,0) _ HG0.out Try.underlying27 rfl (by kernel_rfl) ?_)) | (go_at_call 20; (refine (check_any _ _ _ _ _ _ _ _ _ _ _ _ _ _ HPR.out.zr HPR.out.zi).mono ?_); (rintro e w_K0 ⟨rfl,hb⟩); (rw [HCK.out]); (have K0:=Lib.hid (TS.start (pc:=#[.int .i64 p.kind,.int .u32 p.mine,.int .u32 p.boot,.int .u32 p.yours,.int .u32 p.seq,.int .u32 p.ack,.int .u32 p.stamp,.int .u32 p.echo,.complex .f64 p.zr p.zi,.slice Ab p.body.length cb]) H.out HS.out hB (hb.mono (by simp)))); (clear hb); (have hl1:w_K0.cell? ⟨g,1,none⟩ = some (.int .i64 2):=(blk_cell K0.out.at_.blk 1).trans (congrArg (fun x => some (Value.int .i64 x)) HPH.out)); (have hp0:w_K0.cell? ⟨w.heap.size,0,none⟩ = some (.int .i64 2):=(blk_cell K0.out.pb 0).trans (congrArg (fun x => some (Value.int .i64 x)) HKD.out)); (have hp1:w_K0.cell? ⟨w.heap.size,1,none⟩ = some (.int .u32 p.mine):=(blk_cell K0.out.pb 1).trans rfl)) | (go_at_call 76; (refine (age_of K0.out.at_ boot p.mine).mono ?_); (rintro e w1 ⟨rfl,rfl⟩); (rw [HAG.out])) | ((with_reducible refine gate_dst (N:=59) rfl ?_); (refine gate_guard (by rfl) ?_); (refine wpList_load_row rfl 27 (.tmp 5) rfl w.heap.size (by rfl) 27 _ (0,0) _ (by first | exact K0.out.pb | exact (K0.out.drewN hB _).pb) Try.underlying27 rfl (by kernel_rfl) ?_)) | (go_at_call 77; (refine (meant_of K0.out.at_ p (.slice Ab p.body.length cb)).mono ?_); (rintro e w_K1 ⟨rfl,hb⟩); (have hme:meantF (L) p = true:=HMN.out); (rw [hme]); (clear hme); (have K1:=Lib.hid (K0.out.sub hB hb)); (clear hb); (clear hl1 hp0 hp1)) | ((with_reducible refine gate_ (.store 4 (.tmp 62) (.const (.bool true))) rfl ?_); (refine store_F (fun wz => TS w B S g #[.int .i64 p.kind,.int .u32 p.mine,.int .u32 p.boot,.int .u32 p.yours,.int .u32 p.seq,.int .u32 p.ack,.int .u32 p.stamp,.int .u32 p.echo,.complex .f64 p.zr p.zi,.slice Ab p.body.length cb] okq oko (fun _ => False) (L) q o true false false (.slice none 0 0) [] wz) rfl rfl ⟨_,(by have hz1:World.cell? w_K1 ⟨w.heap.size + 1,0,none⟩ = some _:=(blk_cell K1.out.tb 0).trans rfl; have hz2:=blk_frozen K1.out.tb 0; first | (go_simp; done) | (go_simp; rfl)),TS.setT1 K1.out hB 0 _ rfl⟩ (fun w_K2 hF => ?_)); (have K2:=Lib.hid hF); (clear hF); (have hl9:w_K2.cell? ⟨g,9,none⟩ = some (.int .u32 L.expected):=(blk_cell K2.out.at_.blk 9).trans rfl); (have hp0:w_K2.cell? ⟨w.heap.size,0,none⟩ = some (.int .i64 2):=(blk_cell K2.out.pb 0).trans (congrArg (fun x => some (Value.int .i64 x)) HKD.out)); (have hp4:w_K2.cell? ⟨w.heap.size,4,none⟩ = some (.int .u32 p.seq):=(blk_cell K2.out.pb 4).trans rfl)))
 refine wp_goto ?_
 refine Jump.goto HC.out rfl ?_
 go_wp2_with fail
 go_quiet (fail)
 rename Nat => nqq1
 go_wp2_with (first | ((with_reducible refine gate_ (.store 24 (.tmp 131) (.tmp 129)) rfl ?_); (refine store_F (fun wz => TS w B S g #[.int .i64 p.kind,.int .u32 p.mine,.int .u32 p.boot,.int .u32 p.yours,.int .u32 p.seq,.int .u32 p.ack,.int .u32 p.stamp,.int .u32 p.echo,.complex .f64 p.zr p.zi,.slice Ab p.body.length cb] okq oko (fun _ => False) (bumpL L) q o true false false (.slice none 0 0) [] wz) rfl rfl ⟨_,(by have hz1:World.cell? w_K2 ⟨g,9,none⟩ = some _:=(blk_cell K2.out.at_.blk 9).trans rfl; have hz2:=blk_frozen K2.out.at_.blk 9; first | (go_simp; done) | (go_simp; rfl)),TS.setL1 (K2.out.drewN hB nqq1) hB 9 _ rfl rfl rfl⟩ (fun w_K3 hF => ?_)); (have K3:=Lib.hid hF); (clear hF); (clear hl9 hp0 hp4); (have hp9:w_K3.cell? ⟨w.heap.size,9,none⟩ = some (.slice Ab p.body.length cb):=(blk_cell K3.out.pb 9).trans rfl)) | ((with_reducible refine gate_dst (N:=134) rfl ?_); (refine Kd.R_append_rows (Kd.int .u8) (Rr:=fun x cs => cs = [Value.int .u8 x]) (w0:=w) (W:=w_K3) B rfl (.const (.slice none 0 0)) (.tmp 133) 22 5 (.int .u8 0) 1 rfl Try.underlying22 info5' rfl (by decide) (by decide) (.slice none 0 0) [] p.body Ab p.body.length cb (fun k => w_K3.heap.size ≤ k) (fun _ => False) rfl rfl (Kd.R_nil _ _ _ _ _) (Kd.R_reads' (Kd.R_kept HRP.out K3.out.kept HKP.out)).2.2 (fun _ _ hx => hx) (fun _ hf => hf.elim) (fun k hk => hk) K3.out.below (Nat.le_trans hB K3.out.kept.1) (by have:=HPL.out; simp; omega) ?_); (intro v1 w_K4 hR hbl hg _); (obtain ⟨A1,c1,hv1⟩:=Kd.R_slice hR); (subst hv1); (have hF:=TS.grow K3.out hB (⟨hg.os,hg.tape,hg.output,hg.size,fun k hk => hg.block k hk (by simp [Value.ownBlock])⟩:Below w_K3.heap.size w_K3 w_K4) hR); (have K4:=Lib.hid hF.1); (have HRV:=Lib.hid hF.2); (clear hF hR hbl hg); (clear hp9)) | ((with_reducible refine gate_ (.store 22 (.tmp 135) (.tmp 134)) rfl ?_); (refine store_F (fun wz => TS w B S g #[.int .i64 p.kind,.int .u32 p.mine,.int .u32 p.boot,.int .u32 p.yours,.int .u32 p.seq,.int .u32 p.ack,.int .u32 p.stamp,.int .u32 p.echo,.complex .f64 p.zr p.zi,.slice Ab p.body.length cb] okq oko (fun k => w_K3.heap.size ≤ k ∧ k < w_K4.heap.size) (bumpL L) q o true false false ((.slice A1 ([] ++ p.body).length c1)) p.body wz) rfl rfl ⟨_,(by have hz1:World.cell? w_K4 ⟨w.heap.size + 1,3,none⟩ = some _:=(blk_cell K4.out.tb 3).trans rfl; have hz2:=blk_frozen K4.out.tb 3; first | (go_simp; done) | (go_simp; rfl)),K4.out.setT hB (Steps.At.set (Steps.At.refl _ _) 3 _) (blk_put K4.out.tb 3 _ rfl) HRV.out.1 HRV.out.2⟩ (fun w_K5 hF => ?_)); (have K5:=Lib.hid hF); (clear hF); (have hl8:w_K5.cell? ⟨g,8,none⟩ = some (.int .u32 L.base):=(blk_cell K5.out.at_.blk 8).trans rfl); (have hl7:w_K5.cell? ⟨g,7,none⟩ = some (.int .i64 L.sent):=(blk_cell K5.out.at_.blk 7).trans rfl); (have hp5:w_K5.cell? ⟨w.heap.size,5,none⟩ = some (.int .u32 p.ack):=(blk_cell K5.out.pb 5).trans rfl); (have hp0:w_K5.cell? ⟨w.heap.size,0,none⟩ = some (.int .i64 2):=(blk_cell K5.out.pb 0).trans (congrArg (fun x => some (Value.int .i64 x)) HKD.out))))
 go_quiet ((go_at_call 79; refine (ahead_of _ _ _).mono fun _ _ hq => ⟨hq.1.trans (congrArg (fun x => Ending.returned (.int .u32 x)) HKK.out),_,hq.2.symm⟩))
 rename Nat => nqq2
 go_wp2_with fail
 have hSS:(w_K5.drewN nqq2).drew.heap[g]? = some (.cells (row (bumpL L) q o) 131 (0,0)):=(K5.out.drewN hB nqq2).at_.blk
 have hts:=(K5.out.drewN hB nqq2).drew hB
 clear hl8 hl7 hp5 hp0
 refine start_ (n:=19) (S:=fun w' => w'.heap[g]? = some (.cells (row (bumpL L) q o) 131 (0,0))) (ds:=[18]) M0g (by kernel_rfl) rfl rfl (hSS) (fun hHeld => ?_)
 generalize (w_K5.drewN nqq2).drew = w_Y6 at hts hHeld ⊢
 have KY6:=Lib.hid hts
 clear hts hSS
 have HC9:=Lib.hid (emit_of (⟨3,(bumpL L).token,(bumpL L).boot,(bumpL L).yours,0,(bumpL L).expected,0,0,0,0,[]⟩:Pkt) (.slice none 0 0) KY6.out.at_ (bump_ok OK.out) (Nat.le_trans hB KY6.out.kept.1) (okp:=fun _ => False) (pkt_M.2 ⟨_,rfl,Kd.R_nil _ _ _ _ _⟩) (fun _ hk => hk.elim))
 refine pure_ (i:=0) (N:=some 188) (v:=?_) (a':=?_) M0h rfl rfl (by kernel_rfl) (fun _ _ _ h => h) (Or.inl ⟨by rfl,?_⟩) ?_ ?_
 rotate_left
 ·intro w'
  go_simp
  with_reducible rfl
 rotate_left
 ·simp only [Act.put,sA,sZ,sS]
  rfl
 refine pure_ (i:=1) (N:=some 189) (v:=?_) (a':=?_) M0i rfl rfl (by kernel_rfl) (fun _ _ _ h => h) (Or.inl ⟨by rfl,?_⟩) ?_ ?_
 rotate_left
 ·intro w'
  go_simp
  with_reducible rfl
 rotate_left
 ·simp only [Act.put,sA,sZ,sS]
  rfl
 refine pure_ (i:=2) (N:=some 190) (v:=?_) (a':=?_) M0j rfl rfl (by kernel_rfl) (fun _ _ _ h => h) (Or.inl ⟨by rfl,?_⟩) ?_ ?_
 rotate_left
 ·intro w'
  go_simp
  with_reducible rfl
 rotate_left
 ·simp only [Act.put,sA,sZ,sS]
  rfl
 refine pure_ (i:=3) (N:=some 191) (v:=?_) (a':=?_) M0k rfl rfl (by kernel_rfl) (fun _ _ _ h => h) (Or.inl ⟨by rfl,?_⟩) ?_ ?_
 rotate_left
 ·intro w'
  go_simp
  with_reducible rfl
 rotate_left
 ·simp only [Act.put,sA,sZ,sS]
  rfl
 refine take_ (i:=4) (N:=some 192) (v:=?_) (a':=?_) M0l rfl rfl (by kernel_rfl) (fun _ _ _ h => h) (Or.inl ⟨by rfl,?_⟩) hHeld ?_ ?_
 rotate_left
 ·intro w' s0
  have hc2:w'.cell? ⟨g,2,none⟩ = some (.int .u32 (bumpL L).token):=(blk_cell s0 2).trans rfl
  clear s0
  go_simp
  with_reducible rfl
 rotate_left
 ·simp only [Act.put,sA,sZ,sS]
  rfl
 refine pure_ (i:=5) (N:=some 193) (v:=?_) (a':=?_) M0m rfl rfl (by kernel_rfl) (fun _ _ _ h => h) (Or.inl ⟨by rfl,?_⟩) ?_ ?_
 rotate_left
 ·intro w'
  go_simp
  with_reducible rfl
 rotate_left
 ·simp only [Act.put,sA,sZ,sS]
  rfl
 refine pure_ (i:=6) (N:=some 194) (v:=?_) (a':=?_) M0n rfl rfl (by kernel_rfl) (fun _ _ _ h => h) (Or.inl ⟨by rfl,?_⟩) ?_ ?_
 rotate_left
 ·intro w'
  go_simp
  with_reducible rfl
 rotate_left
 ·simp only [Act.put,sA,sZ,sS]
  rfl
 refine pure_ (i:=7) (N:=some 195) (v:=?_) (a':=?_) M0o rfl rfl (by kernel_rfl) (fun _ _ _ h => h) (Or.inl ⟨by rfl,?_⟩) ?_ ?_
 rotate_left
 ·intro w'
  go_simp
  with_reducible rfl
 rotate_left
 ·simp only [Act.put,sA,sZ,sS]
  rfl
 refine take_ (i:=8) (N:=some 196) (v:=?_) (a':=?_) M0p rfl rfl (by kernel_rfl) (fun _ _ _ h => h) (Or.inl ⟨by rfl,?_⟩) hHeld ?_ ?_
 rotate_left
 ·intro w' s0
  have hc3:w'.cell? ⟨g,3,none⟩ = some (.int .u32 (bumpL L).boot):=(blk_cell s0 3).trans rfl
  clear s0
  go_simp
  with_reducible rfl
 rotate_left
 ·simp only [Act.put,sA,sZ,sS]
  rfl
 refine pure_ (i:=9) (N:=some 197) (v:=?_) (a':=?_) M0q rfl rfl (by kernel_rfl) (fun _ _ _ h => h) (Or.inl ⟨by rfl,?_⟩) ?_ ?_
 rotate_left
 ·intro w'
  go_simp
  with_reducible rfl
 rotate_left
 ·simp only [Act.put,sA,sZ,sS]
  rfl
 refine pure_ (i:=10) (N:=some 198) (v:=?_) (a':=?_) M0r rfl rfl (by kernel_rfl) (fun _ _ _ h => h) (Or.inl ⟨by rfl,?_⟩) ?_ ?_
 rotate_left
 ·intro w'
  go_simp
  with_reducible rfl
 rotate_left
 ·simp only [Act.put,sA,sZ,sS]
  rfl
 refine pure_ (i:=11) (N:=some 199) (v:=?_) (a':=?_) M0s rfl rfl (by kernel_rfl) (fun _ _ _ h => h) (Or.inl ⟨by rfl,?_⟩) ?_ ?_
 rotate_left
 ·intro w'
  go_simp
  with_reducible rfl
 rotate_left
 ·simp only [Act.put,sA,sZ,sS]
  rfl
 refine take_ (i:=12) (N:=some 200) (v:=?_) (a':=?_) M0t rfl rfl (by kernel_rfl) (fun _ _ _ h => h) (Or.inl ⟨by rfl,?_⟩) hHeld ?_ ?_
 rotate_left
 ·intro w' s0
  have hc4:w'.cell? ⟨g,4,none⟩ = some (.int .u32 (bumpL L).yours):=(blk_cell s0 4).trans rfl
  clear s0
  go_simp
  with_reducible rfl
 rotate_left
 ·simp only [Act.put,sA,sZ,sS]
  rfl
 refine pure_ (i:=13) (N:=some 201) (v:=?_) (a':=?_) M0u rfl rfl (by kernel_rfl) (fun _ _ _ h => h) (Or.inl ⟨by rfl,?_⟩) ?_ ?_
 rotate_left
 ·intro w'
  go_simp
  with_reducible rfl
 rotate_left
 ·simp only [Act.put,sA,sZ,sS]
  rfl
 refine pure_ (i:=14) (N:=some 202) (v:=?_) (a':=?_) M0v rfl rfl (by kernel_rfl) (fun _ _ _ h => h) (Or.inl ⟨by rfl,?_⟩) ?_ ?_
 rotate_left
 ·intro w'
  go_simp
  with_reducible rfl
 rotate_left
 ·simp only [Act.put,sA,sZ,sS]
  rfl
 refine pure_ (i:=15) (N:=some 203) (v:=?_) (a':=?_) M0w rfl rfl (by kernel_rfl) (fun _ _ _ h => h) (Or.inl ⟨by rfl,?_⟩) ?_ ?_
 rotate_left
 ·intro w'
  go_simp
  with_reducible rfl
 rotate_left
 ·simp only [Act.put,sA,sZ,sS]
  rfl
 refine take_ (i:=16) (N:=some 204) (v:=?_) (a':=?_) M0x rfl rfl (by kernel_rfl) (fun _ _ _ h => h) (Or.inl ⟨by rfl,?_⟩) hHeld ?_ ?_
 rotate_left
 ·intro w' s0
  have hc9:w'.cell? ⟨g,9,none⟩ = some (.int .u32 (bumpL L).expected):=(blk_cell s0 9).trans rfl
  clear s0
  go_simp
  with_reducible rfl
 rotate_left
 ·simp only [Act.put,sA,sZ,sS]
  rfl
 refine pure_ (i:=17) (N:=some 205) (v:=?_) (a':=?_) M0y rfl rfl (by kernel_rfl) (fun _ _ _ h => h) (Or.inl ⟨by rfl,?_⟩) ?_ ?_
 rotate_left
 ·intro w'
  have hu27:=Try.underlying27
  go_simp
  rfl
 rotate_left
 ·simp only [Act.put,sA,sZ,sS]
  rfl
 refine last_ (i:=18) (N:=some 206) M0z rfl rfl (by kernel_rfl) (by decide) (fun K hK => ?_)
 refine goes_ Try.func80 (by kernel_rfl) rfl #[.pointer (some ⟨g,0,none⟩),.agg #[.int .i64 3,.int .u32 (bumpL L).token,.int .u32 (bumpL L).boot,.int .u32 (bumpL L).yours,.int .u32 0,.int .u32 (bumpL L).expected,.int .u32 0,.int .u32 0,.complex .f64 0 0,.slice none 0 0]] (by rfl) rfl rfl (by (try simp only [List.map_toArray,List.map_cons,List.map_nil]); first | done | rfl) ?_
 refine HC9.out.mono ?_
 rintro e w_K7 ⟨rfl,hE⟩
 obtain ⟨oko_K7,o_K7,hF⟩:=TS.emits KY6.out hB hE
 have K7:=Lib.hid hF
 clear hE hF
 refine ⟨_,rfl,?_⟩
 refine hK.out _ _ ?_
 clear hK K
 refine done_ (by kernel_rfl) ?_
 go_wp2_with fail
 refine wp_label ?_
 go_wp2_with (first | ((with_reducible refine gate_dst (N:=207) rfl ?_); (refine wpList_load_row rfl 56 (.tmp 6) rfl (w.heap.size + 1) (by rfl) 56 _ (0,0) _ (by first | exact K7.out.tb | exact (K7.out.drewN hB _).tb) Try.underlying56 rfl (by kernel_rfl) ?_)) | ((with_reducible refine gate_ (.store 56 (.tmp 6) (.tmp 207)) rfl ?_); (refine store_row_F rfl rfl 56 (.tmp 6) (.tmp 207) rfl (w.heap.size + 1) _ rfl rfl 56 _ (by first | exact K7.out.tb | exact (K7.out.drewN hB _).tb) (by kernel_rfl) rfl (by kernel_rfl) ?_); (intro w_K8 hb9 hat9); (have hF:=TS.setT (by first | exact K7.out | exact K7.out.drewN hB _ | exact K7.out.drew hB) hB hat9 hb9 (by first | exact K7.out.brow | exact (K7.out.drewN hB _).brow) (by first | exact K7.out.okb | exact (K7.out.drewN hB _).okb)); (have K8:=Lib.hid hF); (clear hF hb9 hat9)))
 refine Jump.ret ?_
 refine bodyPost_ret ?_ rfl (K8.out.ends)
 exact results_cell2 Try.results34 _ _ rfl rfl (run_loadVar_row (P:=Try.prog) _ (w.heap.size + 1) 56 56 _ (0,0) _ K8.out.tb Try.underlying56 rfl (by kernel_rfl))
end Go.Proofs.Ytnkkgofpifhoeaa.Lk
end
section
namespace Go.Proofs.Ytnkkgofpifhoeaa.Lk
open Go.RowKit Go.Proofs.Ytnkkgofpifhoeaa.Base Go.Proofs.Ytnkkgofpifhoeaa.Pk Go.Proofs.YtnkkgofpifhoeaaW.PrintWords
def ackK (L:Lk) (p:Pkt):Nat:=(IntKind.u32.wrap (p.ack - L.base)).toNat
def upM (L:Lk) (p:Pkt):Lk:=if p.kind = 2 ∧ p.seq = L.expected then bumpL L else L
def upN (L:Lk) (p:Pkt):Lk:=if 1 ≤ ackK L p ∧ (ackK L p:Int) ≤ L.sent then fill_ (cutL (upM L p) (ackK L p)) else upM L p
def upL (L:Lk) (p:Pkt):Lk:=if p.kind = 2 then emit_ (upN L p) (ackP (upN L p)) else upN L p
def upB (L:Lk) (p:Pkt):List Int:=if p.kind = 2 ∧ p.seq = L.expected then p.body else []
structure Tk where
 heard:Bool
 up:Bool
 down:Bool
 body:List Int
def peerL (L:Lk) (boot:Int) (p:Pkt):Lk:={ L with boot:=boot,yours:=p.mine,known:=true }
def takeF (L:Lk) (boot:Int) (p:Pkt):Lk × Tk :=
 if L.phase = 0 ∨ ageF L boot p.mine = -1 then (L,⟨false,false,false,[]⟩)
 else if p.kind = 1 then
  if L.phase = 1 then
   if meantF L p = true then (emit_ { peerL L boot p with phase:=2 } (helloP { peerL L boot p with phase:=2 }),⟨true,true,false,[]⟩)
   else (emit_ (peerL L boot p) (helloP (peerL L boot p)),⟨true,false,false,[]⟩)
  else if ageF L boot p.mine = 0 then (if p.seq = 0 then emit_ L (helloP L) else L,⟨true,false,false,[]⟩)
  else if L.token = 4294967295 then (shut_ L,⟨true,false,true,[]⟩)
  else (emit_ (peerL (begin_ L) boot p) (helloP (peerL (begin_ L) boot p)),⟨true,false,true,[]⟩)
 else if L.phase = 2 ∧ ageF L boot p.mine = 0 ∧ meantF L p = true then (upL L p,⟨true,false,false,upB L p⟩)
 else (L,⟨false,false,false,[]⟩)
theorem age_or (L:Lk) (boot mine:Int):ageF L boot mine = -1 ∨ ageF L boot mine = 0 ∨ ageF L boot mine = 1:=by
 unfold ageF
 split
 ·exact .inl rfl
 ·split
  ·split
   ·exact .inl rfl
   ·split
    ·exact .inr (.inl rfl)
    ·exact .inr (.inr rfl)
  ·exact .inr (.inr rfl)
def TookT (w:World) (B:Nat) (S:Nat → Prop) (g:Nat) (x:Lk × Tk):Ending → World → Prop:=Took w B S g x.1 x.2.heard x.2.up x.2.down x.2.body
theorem take_of {w:World} {B g:Nat} {okq oko S:Nat → Prop} {L:Lk} {q o:Value} (h:At w B okq oko g L q o) (hok:L.Ok) (hS:∀ k,holds okq oko g k → S k) (hB:B ≤ w.heap.size) (boot:Int) (p:Pkt) (Ab:Option Addr) (cb:Nat)
  (hb0:boot ≠ 0) (hbr:0 ≤ boot ∧ boot < 4294967296) (hpr:p.Rng) (hck:checkP p.kind p.mine p.boot p.yours p.seq p.ack p.stamp p.echo p.zr p.zi p.body.length = 0) (hpl:p.body.length ≤ 1000)
  {okp:Nat → Prop} (hR:(Kd.int .u8).R 5 w B okp (.slice Ab p.body.length cb) p.body) (hkp:∀ k,okp k → ¬ S k) :
  Calls Try.prog 34 #[.pointer (some ⟨g,0,none⟩),.int .u32 boot,.agg #[.int .i64 p.kind,.int .u32 p.mine,.int .u32 p.boot,.int .u32 p.yours,.int .u32 p.seq,.int .u32 p.ack,.int .u32 p.stamp,.int .u32 p.echo,.complex .f64 p.zr p.zi,.slice Ab p.body.length cb]] w (TookT w B S g (takeF L boot p)):=by
 have hph:=hok.phase
 have hag:=age_or L boot p.mine
 unfold TookT takeF
 by_cases h0:L.phase = 0
 ·rw [if_pos (.inl h0)]
  exact take_shut h hok hS hB boot p Ab cb hb0 hbr hpr hck h0
 by_cases ho:ageF L boot p.mine = -1
 ·rw [if_pos (.inr ho)]
  exact take_old h hok hS hB boot p Ab cb hb0 hbr hpr hck h0 ho
 rw [if_neg (fun x => x.elim h0 ho)]
 by_cases hk:p.kind = 1
 ·rw [if_pos hk]
  by_cases h1:L.phase = 1
  ·rw [if_pos h1]
   by_cases hm:meantF L p = true
   ·rw [if_pos hm]
    exact take_open1 h hok hS hB boot p Ab cb hb0 hbr hpr hck h1 (by omega) hk hm
   ·rw [if_neg hm]
    exact take_open0 h hok hS hB boot p Ab cb hb0 hbr hpr hck h1 (by omega) hk (by simpa using hm)
  ·rw [if_neg h1]
   have h2:L.phase = 2:=by omega
   by_cases ha:ageF L boot p.mine = 0
   ·rw [if_pos ha]
    by_cases hs:p.seq = 0
    ·rw [if_pos hs]
     exact take_again1 h hok hS hB boot p Ab cb hb0 hbr hpr hck h2 ha hk hs
    ·rw [if_neg hs]
     exact take_again0 h hok hS hB boot p Ab cb hb0 hbr hpr hck h2 ha hk hs
   ·rw [if_neg ha]
    by_cases hmx:L.token = 4294967295
    ·rw [if_pos hmx]
     exact take_anew1 h hok hS hB boot p Ab cb hb0 hbr hpr hck h2 (by omega) hk hmx
    ·rw [if_neg hmx]
     exact take_anew0 h hok hS hB boot p Ab cb hb0 hbr hpr hck h2 (by omega) hk hmx
 rw [if_neg hk]
 by_cases hu:L.phase = 2 ∧ ageF L boot p.mine = 0 ∧ meantF L p = true
 ·rw [if_pos hu]
  obtain ⟨h2,ha,hm⟩:=hu
  have hkk:IntKind.u32.wrap (p.ack - L.base) = (ackK L p:Int):=(Int.toNat_of_nonneg (wrap32 _).1).symm
  generalize hkn:ackK L p = kn at hkk
  unfold upL upN upB
  rw [hkn]
  by_cases hd:p.kind = 2
  ·by_cases hs:p.seq = L.expected
   ·have hM:upM L p = bumpL L:=by unfold upM; rw [if_pos (show p.kind = 2 ∧ p.seq = L.expected from ⟨hd,hs⟩)]
    rw [hM,if_pos hd,if_pos (show p.kind = 2 ∧ p.seq = L.expected from ⟨hd,hs⟩)]
    by_cases hz:kn = 0
    ·rw [if_neg (by omega)]
     exact take_up11z h hok hS hB boot p Ab cb hb0 hbr hpr hck h2 ha hm hpl hR hkp kn hkk hd hs hz
    ·by_cases hle:(kn:Int) ≤ L.sent
     ·rw [if_pos ⟨by omega,hle⟩]
      exact take_up11a h hok hS hB boot p Ab cb hb0 hbr hpr hck h2 ha hm hpl hR hkp kn hkk hd hs (by omega) hle
     ·rw [if_neg (fun x => hle x.2)]
      exact take_up11b h hok hS hB boot p Ab cb hb0 hbr hpr hck h2 ha hm hpl hR hkp kn hkk hd hs (by omega) (by omega)
   ·have hM:upM L p = L:=by unfold upM; rw [if_neg (fun x => hs x.2)]
    rw [hM,if_pos hd,if_neg (show ¬ (p.kind = 2 ∧ p.seq = L.expected) from fun x => hs x.2)]
    by_cases hz:kn = 0
    ·rw [if_neg (by omega)]
     exact take_up10z h hok hS hB boot p Ab cb hb0 hbr hpr hck h2 ha hm hpl hR hkp kn hkk hd hs hz
    ·by_cases hle:(kn:Int) ≤ L.sent
     ·rw [if_pos ⟨by omega,hle⟩]
      exact take_up10a h hok hS hB boot p Ab cb hb0 hbr hpr hck h2 ha hm hpl hR hkp kn hkk hd hs (by omega) hle
     ·rw [if_neg (fun x => hle x.2)]
      exact take_up10b h hok hS hB boot p Ab cb hb0 hbr hpr hck h2 ha hm hpl hR hkp kn hkk hd hs (by omega) (by omega)
  ·have hM:upM L p = L:=by unfold upM; rw [if_neg (fun x => hd x.1)]
   rw [hM,if_neg hd,if_neg (show ¬ (p.kind = 2 ∧ p.seq = L.expected) from fun x => hd x.1)]
   by_cases hz:kn = 0
   ·rw [if_neg (by omega)]
    exact take_up00z h hok hS hB boot p Ab cb hb0 hbr hpr hck h2 ha hm hpl hR hkp kn hkk hk hd hz
   ·by_cases hle:(kn:Int) ≤ L.sent
    ·rw [if_pos ⟨by omega,hle⟩]
     exact take_up00a h hok hS hB boot p Ab cb hb0 hbr hpr hck h2 ha hm hpl hR hkp kn hkk hk hd (by omega) hle
    ·rw [if_neg (fun x => hle x.2)]
     exact take_up00b h hok hS hB boot p Ab cb hb0 hbr hpr hck h2 ha hm hpl hR hkp kn hkk hk hd (by omega) (by omega)
 ·rw [if_neg hu]
  by_cases h1:L.phase = 1
  ·exact take_no1 h hok hS hB boot p Ab cb hb0 hbr hpr hck h1 (by omega) hk
  ·have h2:L.phase = 2:=by omega
   by_cases ha:ageF L boot p.mine = 0
   ·exact take_no3 h hok hS hB boot p Ab cb hb0 hbr hpr hck h2 ha hk (by
     cases hm:meantF L p
     ·rfl
     ·exact absurd ⟨h2,ha,hm⟩ hu)
   ·exact take_no2 h hok hS hB boot p Ab cb hb0 hbr hpr hck h2 (by omega) hk
end Go.Proofs.Ytnkkgofpifhoeaa.Lk
end
section
namespace Go.Proofs.Ytnkkgofpifhoeaa.Lk
open Go.RowKit Go.Proofs.Ytnkkgofpifhoeaa.Base Go.Proofs.Ytnkkgofpifhoeaa.Steps Go.Proofs.YtnkkgofpifhoeaaW.PrintWords Go.Proofs.YtnkkgofpifhoeaaW.PrintLast
def sends:Nat → Lk → Lk
 | 0,L => L
 | n + 1,L => emit_ (sends n L) (dataP L n)
def rest_ (L:Lk) (d:Int):Lk:={ L with idle:=d }
def tick_ (L:Lk):Lk :=
 if L.phase = 0 then L
 else if L.phase = 2 ∧ L.sent = 0 then rest_ L 0
 else if L.idle + 1 < 3 then rest_ L (L.idle + 1)
 else if L.phase = 1 then emit_ (rest_ L 0) (helloP (rest_ L 0))
 else sends L.sent.toNat (rest_ L 0)
theorem emit_data (L:Lk) (p:Pkt) (i:Int):dataP (emit_ L p) i = dataP L i:=by unfold emit_; split <;> rfl
theorem sends_data (n:Nat) (L:Lk) (i:Int):dataP (sends n L) i = dataP L i:=by
 induction n with
 | zero => rfl
 | succ n ih => exact (emit_data _ _ _).trans ih
theorem emit_queue (L:Lk) (p:Pkt):(emit_ L p).queue = L.queue:=by unfold emit_; split <;> rfl
theorem sends_queue (n:Nat) (L:Lk):(sends n L).queue = L.queue:=by
 induction n with
 | zero => rfl
 | succ n ih => exact (emit_queue _ _).trans ih
theorem sends_ok {L:Lk} (h:L.Ok) (n:Nat):(sends n L).Ok:=by
 induction n with
 | zero => exact h
 | succ n ih => exact emit_ok ih _
theorem rest_ok {L:Lk} (h:L.Ok) {d:Int} (hd:0 ≤ d ∧ d ≤ 1000):(rest_ L d).Ok:=⟨h.own,h.phase,h.token,h.boot,h.yours,h.queue,h.rows,h.sent,h.base,h.expected,hd,h.out⟩
set_option maxRecDepth 100000 in
set_option maxHeartbeats 1000000 in
theorem tick_shut {w:World} {B g:Nat} {okq oko:Nat → Prop} {L:Lk} {q o:Value} (h:At w B okq oko g L q o) (hok:L.Ok) (hB:B ≤ w.heap.size) (hp:L.phase = 0) {own:Nat → Prop} (ho:∀ k,holds okq oko g k → own k) :
  Calls Try.prog 33 #[.pointer (some ⟨g,0,none⟩)] w fun e w' => e = .returned (.tuple #[]) ∧ Turns w B own g (L) w':=by
 have hl1:w.cell? ⟨g,1,none⟩ = some (.int .i64 L.phase):=(blk_cell h.blk 1).trans rfl
 have hl7:w.cell? ⟨g,7,none⟩ = some (.int .i64 L.sent):=(blk_cell h.blk 7).trans rfl
 have hl10:w.cell? ⟨g,10,none⟩ = some (.int .i64 L.idle):=(blk_cell h.blk 10).trans rfl
 have hs:=hok.sent
 have hid:=hok.idle
 have H:=Lib.hid h
 have OK:=Lib.hid hok
 have HOW:=Lib.hid ho
 clear h hok ho
 have hd:(L.phase == 0) = true:=by simp [hp]
 clear hp
 go_enter Try.func33,Try.ntmps33
 go_wp2_with (first | fail)
 all_goals ((first | go_end0 | (refine bodyPost_ret (results_none rfl _ _ _) rfl ?_)); exact ⟨rfl,Turns.same ⟨_,_,_,_,H.out,HOW.out⟩⟩)
set_option maxRecDepth 100000 in
set_option maxHeartbeats 1000000 in
theorem tick_none {w:World} {B g:Nat} {okq oko:Nat → Prop} {L:Lk} {q o:Value} (h:At w B okq oko g L q o) (hok:L.Ok) (hB:B ≤ w.heap.size) (hp:L.phase = 2) (h0:L.sent = 0) {own:Nat → Prop} (ho:∀ k,holds okq oko g k → own k) :
  Calls Try.prog 33 #[.pointer (some ⟨g,0,none⟩)] w fun e w' => e = .returned (.tuple #[]) ∧ Turns w B own g (rest_ L 0) w':=by
 have hl1:w.cell? ⟨g,1,none⟩ = some (.int .i64 L.phase):=(blk_cell h.blk 1).trans rfl
 have hl7:w.cell? ⟨g,7,none⟩ = some (.int .i64 L.sent):=(blk_cell h.blk 7).trans rfl
 have hl10:w.cell? ⟨g,10,none⟩ = some (.int .i64 L.idle):=(blk_cell h.blk 10).trans rfl
 have hs:=hok.sent
 have hid:=hok.idle
 have H:=Lib.hid h
 have OK:=Lib.hid hok
 have HOW:=Lib.hid ho
 clear h hok ho
 have hd:(L.phase == 0) = false:=by simp [hp]
 have hd2:(L.phase == 2) = true:=by simp [hp]
 have hd3:(L.sent == 0) = true:=by simp [h0]
 clear hp h0
 go_enter Try.func33,Try.ntmps33
 go_wp2_with (first | ((with_reducible refine gate_ (.store 3 (.tmp 26) (.const (.int .i64 0))) rfl ?_); (refine store_F (fun wz => At wz B okq oko g (rest_ L (0)) q o ∧ Go.Proofs.Ytnkkgofpifhoeaa.Steps.At g w wz) rfl rfl ⟨_,(by have hz1:World.cell? _ ⟨g,10,none⟩ = some _:=(blk_cell H.out.blk 10).trans rfl; have hz2:=blk_frozen H.out.blk 10; first | (go_simp; done) | (go_simp; rfl)),H.out.put1 10 _ rfl rfl rfl,Steps.At.set (Steps.At.refl _ _) _ _⟩ (fun w_K1 hF => ?_)); (have K1:=Lib.hid hF); (clear hF)))
 all_goals ((first | go_end0 | (refine bodyPost_ret (results_none rfl _ _ _) rfl ?_)); exact ⟨rfl,⟨⟨_,_,_,_,K1.out.1,fun k hk => .inl (HOW.out k hk)⟩,(kept_at' K1.out.2).mono (fun k hk => HOW.out k (.inr (.inr hk))),K1.out.2.below (Below.refl _ _) H.out.low⟩⟩)
set_option maxRecDepth 100000 in
set_option maxHeartbeats 1000000 in
theorem tick_wait1 {w:World} {B g:Nat} {okq oko:Nat → Prop} {L:Lk} {q o:Value} (h:At w B okq oko g L q o) (hok:L.Ok) (hB:B ≤ w.heap.size) (hp:L.phase = 1) (hi:L.idle + 1 < 3) {own:Nat → Prop} (ho:∀ k,holds okq oko g k → own k) :
  Calls Try.prog 33 #[.pointer (some ⟨g,0,none⟩)] w fun e w' => e = .returned (.tuple #[]) ∧ Turns w B own g (rest_ L (L.idle + 1)) w':=by
 have hl1:w.cell? ⟨g,1,none⟩ = some (.int .i64 L.phase):=(blk_cell h.blk 1).trans rfl
 have hl7:w.cell? ⟨g,7,none⟩ = some (.int .i64 L.sent):=(blk_cell h.blk 7).trans rfl
 have hl10:w.cell? ⟨g,10,none⟩ = some (.int .i64 L.idle):=(blk_cell h.blk 10).trans rfl
 have hs:=hok.sent
 have hid:=hok.idle
 have H:=Lib.hid h
 have OK:=Lib.hid hok
 have HOW:=Lib.hid ho
 clear h hok ho
 have hd:(L.phase == 0) = false:=by simp [hp]
 have hd2:(L.phase == 2) = false:=by simp [hp]
 have hd4:decide (L.idle + 1 < 3) = true:=by simp [hi]
 clear hp
 go_enter Try.func33,Try.ntmps33
 go_wp2_with (first | ((with_reducible refine gate_ (.store 3 (.tmp 33) (.tmp 31)) rfl ?_); (refine store_F (fun wz => At wz B okq oko g (rest_ L (L.idle + 1)) q o ∧ Go.Proofs.Ytnkkgofpifhoeaa.Steps.At g w wz) rfl rfl ⟨_,(by have hz1:World.cell? _ ⟨g,10,none⟩ = some _:=(blk_cell H.out.blk 10).trans rfl; have hz2:=blk_frozen H.out.blk 10; first | (go_simp; done) | (go_simp; rfl)),H.out.put1 10 _ rfl rfl rfl,Steps.At.set (Steps.At.refl _ _) _ _⟩ (fun w_K1 hF => ?_)); (have K1:=Lib.hid hF); (clear hF); (clear hl1 hl7 hl10); (have hl1:w_K1.cell? ⟨g,1,none⟩ = some (.int .i64 L.phase):=(blk_cell K1.out.1.blk 1).trans rfl); (have hl10:w_K1.cell? ⟨g,10,none⟩ = some (.int .i64 (L.idle + 1)):=(blk_cell K1.out.1.blk 10).trans rfl)))
 all_goals ((first | go_end0 | (refine bodyPost_ret (results_none rfl _ _ _) rfl ?_)); exact ⟨rfl,⟨⟨_,_,_,_,K1.out.1,fun k hk => .inl (HOW.out k hk)⟩,(kept_at' K1.out.2).mono (fun k hk => HOW.out k (.inr (.inr hk))),K1.out.2.below (Below.refl _ _) H.out.low⟩⟩)
set_option maxRecDepth 100000 in
set_option maxHeartbeats 1000000 in
theorem tick_wait2 {w:World} {B g:Nat} {okq oko:Nat → Prop} {L:Lk} {q o:Value} (h:At w B okq oko g L q o) (hok:L.Ok) (hB:B ≤ w.heap.size) (hp:L.phase = 2) (h0:¬ L.sent = 0) (hi:L.idle + 1 < 3) {own:Nat → Prop} (ho:∀ k,holds okq oko g k → own k) :
  Calls Try.prog 33 #[.pointer (some ⟨g,0,none⟩)] w fun e w' => e = .returned (.tuple #[]) ∧ Turns w B own g (rest_ L (L.idle + 1)) w':=by
 have hl1:w.cell? ⟨g,1,none⟩ = some (.int .i64 L.phase):=(blk_cell h.blk 1).trans rfl
 have hl7:w.cell? ⟨g,7,none⟩ = some (.int .i64 L.sent):=(blk_cell h.blk 7).trans rfl
 have hl10:w.cell? ⟨g,10,none⟩ = some (.int .i64 L.idle):=(blk_cell h.blk 10).trans rfl
 have hs:=hok.sent
 have hid:=hok.idle
 have H:=Lib.hid h
 have OK:=Lib.hid hok
 have HOW:=Lib.hid ho
 clear h hok ho
 have hd:(L.phase == 0) = false:=by simp [hp]
 have hd2:(L.phase == 2) = true:=by simp [hp]
 have hd3:(L.sent == 0) = false:=by simp [h0]
 clear h0
 have hd4:decide (L.idle + 1 < 3) = true:=by simp [hi]
 clear hp
 go_enter Try.func33,Try.ntmps33
 go_wp2_with (first | ((with_reducible refine gate_ (.store 3 (.tmp 33) (.tmp 31)) rfl ?_); (refine store_F (fun wz => At wz B okq oko g (rest_ L (L.idle + 1)) q o ∧ Go.Proofs.Ytnkkgofpifhoeaa.Steps.At g w wz) rfl rfl ⟨_,(by have hz1:World.cell? _ ⟨g,10,none⟩ = some _:=(blk_cell H.out.blk 10).trans rfl; have hz2:=blk_frozen H.out.blk 10; first | (go_simp; done) | (go_simp; rfl)),H.out.put1 10 _ rfl rfl rfl,Steps.At.set (Steps.At.refl _ _) _ _⟩ (fun w_K1 hF => ?_)); (have K1:=Lib.hid hF); (clear hF); (clear hl1 hl7 hl10); (have hl1:w_K1.cell? ⟨g,1,none⟩ = some (.int .i64 L.phase):=(blk_cell K1.out.1.blk 1).trans rfl); (have hl10:w_K1.cell? ⟨g,10,none⟩ = some (.int .i64 (L.idle + 1)):=(blk_cell K1.out.1.blk 10).trans rfl)))
 all_goals ((first | go_end0 | (refine bodyPost_ret (results_none rfl _ _ _) rfl ?_)); exact ⟨rfl,⟨⟨_,_,_,_,K1.out.1,fun k hk => .inl (HOW.out k hk)⟩,(kept_at' K1.out.2).mono (fun k hk => HOW.out k (.inr (.inr hk))),K1.out.2.below (Below.refl _ _) H.out.low⟩⟩)
set_option maxRecDepth 100000 in
set_option maxHeartbeats 1000000 in
theorem tick_hello {w:World} {B g:Nat} {okq oko:Nat → Prop} {L:Lk} {q o:Value} (h:At w B okq oko g L q o) (hok:L.Ok) (hB:B ≤ w.heap.size) (hp:L.phase = 1) (hi:¬ L.idle + 1 < 3) {own:Nat → Prop} (ho:∀ k,holds okq oko g k → own k) :
  Calls Try.prog 33 #[.pointer (some ⟨g,0,none⟩)] w fun e w' => e = .returned (.tuple #[]) ∧ Turns w B own g (emit_ (rest_ L 0) (helloP (rest_ L 0))) w':=by
 have hl1:w.cell? ⟨g,1,none⟩ = some (.int .i64 L.phase):=(blk_cell h.blk 1).trans rfl
 have hl7:w.cell? ⟨g,7,none⟩ = some (.int .i64 L.sent):=(blk_cell h.blk 7).trans rfl
 have hl10:w.cell? ⟨g,10,none⟩ = some (.int .i64 L.idle):=(blk_cell h.blk 10).trans rfl
 have hs:=hok.sent
 have hid:=hok.idle
 have H:=Lib.hid h
 have OK:=Lib.hid hok
 have HOW:=Lib.hid ho
 clear h hok ho
 have hd:(L.phase == 0) = false:=by simp [hp]
 have hd2:(L.phase == 2) = false:=by simp [hp]
 have hd5:(L.phase == 1) = true:=by simp [hp]
 have hd4:decide (L.idle + 1 < 3) = false:=by simp; omega
 clear hp
 go_enter Try.func33,Try.ntmps33
 go_wp2_with (first | ((with_reducible refine gate_ (.store 3 (.tmp 33) (.tmp 31)) rfl ?_); (refine store_F (fun wz => At wz B okq oko g (rest_ L (L.idle + 1)) q o ∧ Go.Proofs.Ytnkkgofpifhoeaa.Steps.At g w wz) rfl rfl ⟨_,(by have hz1:World.cell? _ ⟨g,10,none⟩ = some _:=(blk_cell H.out.blk 10).trans rfl; have hz2:=blk_frozen H.out.blk 10; first | (go_simp; done) | (go_simp; rfl)),H.out.put1 10 _ rfl rfl rfl,Steps.At.set (Steps.At.refl _ _) _ _⟩ (fun w_K1 hF => ?_)); (have K1:=Lib.hid hF); (clear hF); (clear hl1 hl7 hl10); (have hl1:w_K1.cell? ⟨g,1,none⟩ = some (.int .i64 L.phase):=(blk_cell K1.out.1.blk 1).trans rfl); (have hl10:w_K1.cell? ⟨g,10,none⟩ = some (.int .i64 (L.idle + 1)):=(blk_cell K1.out.1.blk 10).trans rfl)) | ((with_reducible refine gate_ (.store 3 (.tmp 41) (.const (.int .i64 0))) rfl ?_); (refine store_F (fun wz => At wz B okq oko g (rest_ L (0)) q o ∧ Go.Proofs.Ytnkkgofpifhoeaa.Steps.At g w wz) rfl rfl ⟨_,(by have hz1:World.cell? _ ⟨g,10,none⟩ = some _:=(blk_cell K1.out.1.blk 10).trans rfl; have hz2:=blk_frozen K1.out.1.blk 10; first | (go_simp; done) | (go_simp; rfl)),K1.out.1.put1 10 _ rfl rfl rfl,Steps.At.set K1.out.2 _ _⟩ (fun w_K2 hF => ?_)); (have K2:=Lib.hid hF); (clear hF); (clear hl1 hl10); (have hl1:w_K2.cell? ⟨g,1,none⟩ = some (.int .i64 L.phase):=(blk_cell K2.out.1.blk 1).trans rfl); (have hl7:w_K2.cell? ⟨g,7,none⟩ = some (.int .i64 L.sent):=(blk_cell K2.out.1.blk 7).trans rfl)) | (go_at_call 73; (refine (hello_of K2.out.1 (rest_ok OK.out (by decide)) (by have:=K2.out.2.size; omega)).mono ?_); (rintro e w9 ⟨rfl,hE⟩); (have HE:=Lib.hid hE); (clear hE)))
 all_goals ((first | go_end0 | (refine bodyPost_ret (results_none rfl _ _ _) rfl ?_)); exact ⟨rfl,Turns.trans (⟨⟨_,_,_,_,K2.out.1,fun k hk => .inl (HOW.out k hk)⟩,(kept_at' K2.out.2).mono (fun k hk => HOW.out k (.inr (.inr hk))),K2.out.2.below (Below.refl _ _) H.out.low⟩:Turns w B own g (rest_ L 0) w_K2) ((Emits.turns (fun k hk => .inl (HOW.out k hk)) HE.out))⟩)
set_option maxRecDepth 100000 in
set_option maxHeartbeats 1000000 in
theorem tick_again {w:World} {B g:Nat} {okq oko:Nat → Prop} {L:Lk} {q o:Value} (h:At w B okq oko g L q o) (hok:L.Ok) (hB:B ≤ w.heap.size) (hp:L.phase = 2) (h0:¬ L.sent = 0) (hi:¬ L.idle + 1 < 3) {own:Nat → Prop} (ho:∀ k,holds okq oko g k → own k) :
  Calls Try.prog 33 #[.pointer (some ⟨g,0,none⟩)] w fun e w' => e = .returned (.tuple #[]) ∧ Turns w B own g (sends L.sent.toNat (rest_ L 0)) w':=by
 have hl1:w.cell? ⟨g,1,none⟩ = some (.int .i64 L.phase):=(blk_cell h.blk 1).trans rfl
 have hl7:w.cell? ⟨g,7,none⟩ = some (.int .i64 L.sent):=(blk_cell h.blk 7).trans rfl
 have hl10:w.cell? ⟨g,10,none⟩ = some (.int .i64 L.idle):=(blk_cell h.blk 10).trans rfl
 have hs:=hok.sent
 have hid:=hok.idle
 have H:=Lib.hid h
 have OK:=Lib.hid hok
 have HOW:=Lib.hid ho
 clear h hok ho
 have hd:(L.phase == 0) = false:=by simp [hp]
 have hd2:(L.phase == 2) = true:=by simp [hp]
 have hd3:(L.sent == 0) = false:=by simp [h0]
 have hd5:(L.phase == 1) = false:=by simp [hp]
 have hd4:decide (L.idle + 1 < 3) = false:=by simp; omega
 clear hp h0
 go_enter Try.func33,Try.ntmps33
 go_wp2_with (first | ((with_reducible refine gate_ (.store 3 (.tmp 33) (.tmp 31)) rfl ?_); (refine store_F (fun wz => At wz B okq oko g (rest_ L (L.idle + 1)) q o ∧ Go.Proofs.Ytnkkgofpifhoeaa.Steps.At g w wz) rfl rfl ⟨_,(by have hz1:World.cell? _ ⟨g,10,none⟩ = some _:=(blk_cell H.out.blk 10).trans rfl; have hz2:=blk_frozen H.out.blk 10; first | (go_simp; done) | (go_simp; rfl)),H.out.put1 10 _ rfl rfl rfl,Steps.At.set (Steps.At.refl _ _) _ _⟩ (fun w_K1 hF => ?_)); (have K1:=Lib.hid hF); (clear hF); (clear hl1 hl7 hl10); (have hl1:w_K1.cell? ⟨g,1,none⟩ = some (.int .i64 L.phase):=(blk_cell K1.out.1.blk 1).trans rfl); (have hl10:w_K1.cell? ⟨g,10,none⟩ = some (.int .i64 (L.idle + 1)):=(blk_cell K1.out.1.blk 10).trans rfl)) | ((with_reducible refine gate_ (.store 3 (.tmp 41) (.const (.int .i64 0))) rfl ?_); (refine store_F (fun wz => At wz B okq oko g (rest_ L (0)) q o ∧ Go.Proofs.Ytnkkgofpifhoeaa.Steps.At g w wz) rfl rfl ⟨_,(by have hz1:World.cell? _ ⟨g,10,none⟩ = some _:=(blk_cell K1.out.1.blk 10).trans rfl; have hz2:=blk_frozen K1.out.1.blk 10; first | (go_simp; done) | (go_simp; rfl)),K1.out.1.put1 10 _ rfl rfl rfl,Steps.At.set K1.out.2 _ _⟩ (fun w_K2 hF => ?_)); (have K2:=Lib.hid hF); (clear hF); (clear hl1 hl10); (have hl1:w_K2.cell? ⟨g,1,none⟩ = some (.int .i64 L.phase):=(blk_cell K2.out.1.blk 1).trans rfl); (have hl7:w_K2.cell? ⟨g,7,none⟩ = some (.int .i64 L.sent):=(blk_cell K2.out.1.blk 7).trans rfl)))
 go_loopg [53] L.sent.toNat (fun n v wr => ∃ i:Nat,n = L.sent.toNat - i ∧ i ≤ L.sent.toNat ∧ v = .int .i64 (i:Int) ∧ Emits w_K2 B okq oko g (sends i (rest_ L 0)) q wr)
 case atStart => exact ⟨0,rfl,Nat.zero_le _,rfl,Emits.same K2.out.1⟩
 case round =>
  obtain ⟨i,hn,hle,rfl,hE⟩:=hrel
  have HE:=Lib.hid hE
  have HN:=Lib.hid hn
  have HLE:=Lib.hid hle
  clear hE hn hle
  by_cases hlt:(i:Int) < L.sent
  ·have hd8:decide ((i:Int) < L.sent) = true:=by simp [hlt]
   have HLT:=Lib.hid hlt
   obtain ⟨o',h1,h2,h3⟩:=HE.out
   have H1:=Lib.hid h1
   have H2:=Lib.hid h2
   have H3:=Lib.hid h3
   clear h1 h2 h3
   have OK3:=Lib.hid (sends_ok (rest_ok OK.out (d:=0) (by decide)) i)
   have HI1:=Lib.hid (show (i:Int) < ((sends i (rest_ L 0)).queue.length:Int) by rw [sends_queue]; show (i:Int) < (L.queue.length:Int); omega)
   go_wp2_with (go_at_call 75; (refine (data_of (i:=(i:Int)) H1.out OK3.out (Nat.le_trans hB (Nat.le_trans (Nat.le_of_eq K2.out.2.size.symm) H2.out.1)) (Int.natCast_nonneg i) HI1.out).mono ?_); (rintro e w9 ⟨rfl,hE⟩); (have HE2:=Lib.hid hE); (clear hE))
   go_roundg (L.sent.toNat - (i + 1))
   case measure => have:=HN.out; have:=HLT.out; omega
   case rel =>
    refine ⟨i + 1,rfl,by have:=HLT.out; omega,by simp,?_⟩
    have e:=Emits.chain (fun k hk => (K2.out.1.old k (.inl hk)).1) (blk_lt K2.out.1.blk) K2.out.1.low H2.out H3.out (Steps.At.refl _ _) HE2.out
    rw [sends_data] at e
    exact e
  ·have hd8:decide ((i:Int) < L.sent) = false:=by simp; omega
   have HI:=Lib.hid (show i = L.sent.toNat by have:=HLE.out; omega)
   go_wp2_with fail
   all_goals ((first | go_end0 | (refine bodyPost_ret (results_none rfl _ _ _) rfl ?_)); exact ⟨rfl,Turns.trans (⟨⟨_,_,_,_,K2.out.1,fun k hk => .inl (HOW.out k hk)⟩,(kept_at' K2.out.2).mono (fun k hk => HOW.out k (.inr (.inr hk))),K2.out.2.below (Below.refl _ _) H.out.low⟩:Turns w B own g (rest_ L 0) w_K2) ((Emits.turns (fun k hk => .inl (HOW.out k hk)) (HI.out ▸ HE.out)))⟩)
theorem tick_of {w:World} {B g:Nat} {own:Nat → Prop} {L:Lk} (h:End w B own g L) (hok:L.Ok) (hB:B ≤ w.heap.size) :
  Calls Try.prog 33 #[.pointer (some ⟨g,0,none⟩)] w fun e w' => e = .returned (.tuple #[]) ∧ Turns w B own g (tick_ L) w':=by
 obtain ⟨okq,oko,q,o,h,ho⟩:=h
 have hp:=hok.phase
 unfold tick_
 by_cases h0:L.phase = 0
 ·rw [if_pos h0]; exact tick_shut h hok hB h0 ho
 rw [if_neg h0]
 by_cases h2:L.phase = 2
 ·by_cases hs:L.sent = 0
  ·rw [if_pos ⟨h2,hs⟩]; exact tick_none h hok hB h2 hs ho
  ·rw [if_neg (fun x => hs x.2)]
   by_cases hi:L.idle + 1 < 3
   ·rw [if_pos hi]; exact tick_wait2 h hok hB h2 hs hi ho
   ·rw [if_neg hi,if_neg (by omega)]; exact tick_again h hok hB h2 hs hi ho
 ·rw [if_neg (fun x => h2 x.1)]
  have h1:L.phase = 1:=by omega
  by_cases hi:L.idle + 1 < 3
  ·rw [if_pos hi]; exact tick_wait1 h hok hB h1 hi ho
  ·rw [if_neg hi,if_pos h1]; exact tick_hello h hok hB h1 hi ho
end Go.Proofs.Ytnkkgofpifhoeaa.Lk
end
section
namespace Go.Proofs.Ytnkkgofpifhoeaa.Lk
open Go.RowKit Go.Proofs.Ytnkkgofpifhoeaa.Base Go.Proofs.Ytnkkgofpifhoeaa.Pk Go.Proofs.YtnkkgofpifhoeaaW.PrintWords Go.Proofs.YtnkkgofpifhoeaaW.PrintLast
structure Pkt.Good (p:Pkt):Prop where
 rng:p.Rng
 check:checkP p.kind p.mine p.boot p.yours p.seq p.ack p.stamp p.echo p.zr p.zi p.body.length = 0
 len:p.body.length ≤ 1000
section
variable {w:World} {B g:Nat} {own:Nat → Prop} {L:Lk} (h:End w B own g L) (hB:B ≤ w.heap.size)
include h
theorem phase_end:Calls Try.prog 29 #[.pointer (some ⟨g,0,none⟩)] w fun e w' => e = .returned (.int .i64 L.phase) ∧ w = w':=by
 obtain ⟨_,_,_,_,h,_⟩:=h
 exact phase_of h
include hB
theorem open_end (hok:L.Ok):Calls Try.prog 27 #[.pointer (some ⟨g,0,none⟩)] w fun e w' => e = .returned (.int .i64 (openE L)) ∧ Turns w B own g (openL L) w':=by
 obtain ⟨_,_,_,_,h,ho⟩:=h
 exact (open_of h hok hB).mono fun e w' hq => ⟨hq.1,Drops.turns ho hq.2⟩
omit hB in
theorem shut_end:Calls Try.prog 78 #[.pointer (some ⟨g,0,none⟩)] w fun e w' => e = .returned (.bool (decide (L.phase = 2))) ∧ Turns w B own g (shut_ L) w':=by
 obtain ⟨_,_,_,_,h,ho⟩:=h
 refine (shut_of h).mono fun e w' hq => ⟨hq.1,⟨⟨_,_,_,_,hq.2.1,fun k hk => .inl (ho k ?_)⟩,(kept_at' hq.2.2).mono (fun k hk => ho k (.inr (.inr hk))),hq.2.2.below (Below.refl _ _) h.low⟩⟩
 rcases hk with hk | hk | hk
 ·exact hk.elim
 ·exact .inr (.inl hk)
 ·exact .inr (.inr hk)
theorem send_end (hok:L.Ok) (body:List Int) (Ab:Option Addr) (cb:Nat) (hC:(Kd.int .u8).C w Ab body.length body) :
  Calls Try.prog 30 #[.pointer (some ⟨g,0,none⟩),.slice Ab body.length cb] w fun e w' => e = .returned (.int .i64 (sendE L body.length)) ∧ Turns w B own g (sendL L body) w':=by
 obtain ⟨_,_,_,_,h,ho⟩:=h
 exact send_of h hok hB body Ab cb hC ho
theorem take_end (hok:L.Ok) (boot:Int) (p:Pkt) (hb:0 < boot ∧ boot < 4294967296) (hp:p.Good) {okp:Nat → Prop} {cs:List Value} (hM:pkt.M w B okp p cs) (hkp:∀ k,okp k → ¬ own k) :
  Calls Try.prog 34 #[.pointer (some ⟨g,0,none⟩),.int .u32 boot,.agg cs.toArray] w (TookT w B own g (takeF L boot p)):=by
 obtain ⟨_,_,_,_,h,ho⟩:=h
 obtain ⟨b,rfl,hR⟩:=pkt_M.1 hM
 obtain ⟨Ab,cb,rfl,hlen⟩:=Kd.R_slice hR
 exact take_of h hok ho hB boot p Ab cb (by omega) (by omega) hp.rng hp.check hp.len hR hkp
end
theorem Took.turns {w:World} {B g:Nat} {own:Nat → Prop} {x:Lk × Tk} {e:Ending} {w':World} (h:TookT w B own g x e w'):Turns w B own g x.1 w':=by
 obtain ⟨vb,okb,he,hR,hk,hE,hK,hb⟩:=h
 exact ⟨hE.mono (fun k hk => hk.elim .inl (fun hn => .inr ⟨hn.1,hn.2.1⟩)),hK,hb⟩
end Go.Proofs.Ytnkkgofpifhoeaa.Lk
end
section
namespace Go.Proofs.Ytnkkgofpifhoeaa.Lk
open Go.RowKit Go.Proofs.Ytnkkgofpifhoeaa.Base Go.Proofs.Ytnkkgofpifhoeaa.Pk Go.Proofs.YtnkkgofpifhoeaaW.PrintWords Go.Proofs.YtnkkgofpifhoeaaW.PrintLast
def nilP:Pkt:=⟨0,0,0,0,0,0,0,0,0,0,[]⟩
theorem pkt_elem {w:World} {B:Nat} {okx:Nat → Prop} {A:Option Addr} {n c:Nat} {ps:List Pkt} (h:pkt.R 27 w B okx (.slice A n c) ps) (i:Nat) (hi:i < n) :
  ∃ gx cs,A = some ⟨gx,0,none⟩ ∧ pkt.M w B okx (ps.getD i nilP) cs ∧ w.rangeAt gx (i * 10) cs ∧ cs.length = 10 ∧ n = ps.length:=by
 obtain ⟨hn,hnc,hC⟩:=Kd.R_reads' h
 obtain ⟨gx,cap,he,_⟩:=Kd.R_form h (by omega)
 injection he with h1 h2 h3
 subst h1
 obtain ⟨cs,hl,hM,hc,_⟩:=Kd.R_elem h nilP (i:Int) (by omega) (by omega)
 refine ⟨gx,cs,rfl,pkt.M_mono (fun k hk => hk.1) hM,?_,hl,hn⟩
 intro j u hu
 have:=hc j u hu
 simpa [pkt_sz] using this
def outL (L:Lk):Lk:={ L with out:=[] }
theorem outL_ok {L:Lk} (h:L.Ok):(outL L).Ok:=⟨h.own,h.phase,h.token,h.boot,h.yours,h.queue,h.rows,h.sent,h.base,h.expected,h.idle,Nat.zero_le _⟩
end Go.Proofs.Ytnkkgofpifhoeaa.Lk
end
section
namespace Go.Proofs.Ytnkkgofpifhoeaa.Lk
open Go.RowKit Go.Proofs.Ytnkkgofpifhoeaa.Pk Go.Proofs.Ytnkkgofpifhoeaa.Flt
structure Lk.Fine (L:Lk):Prop where
 ok:L.Ok
 own:0 < L.own
 good:∀ p ∈ L.out,p.Good
 tok:L.phase ≠ 0 → 0 < L.token
 peer:L.known = true → 0 < L.boot ∧ 0 < L.yours
 up:L.phase = 2 → L.known = true
 full:∀ r ∈ L.queue,0 < r.length
 idleq:L.phase ≠ 2 → L.queue = []
theorem nul0:(nul 0 && nul 0) = true:=by decide
theorem good_cases {p:Pkt} (h:p.Good):0 < p.mine ∧ (p.kind = 2 → 0 < p.body.length):=by
 have hc:=h.check
 have hm:=h.rng.mine
 unfold checkP at hc
 split at hc
 ·rename_i hk
  split at hc
  ·rename_i hg
   have:p.mine ≠ 0:=by
    unfold good1 at hg
    simp only [Bool.and_eq_true,decide_eq_true_eq] at hg
    exact hg.1.1
   exact ⟨by omega,fun h => by omega⟩
  ·exact absurd hc (by decide)
 split at hc
 ·split at hc
  ·exact absurd hc (by decide)
  ·split at hc
   ·rename_i hg
    unfold good2 at hg
    simp only [Bool.and_eq_true,decide_eq_true_eq] at hg
    have:=hg.1.1
    exact ⟨by omega,fun _ => hg.1.2.2.2.1⟩
   ·exact absurd hc (by decide)
 split at hc
 ·split at hc
  ·rename_i hg
   unfold good3 at hg
   simp only [Bool.and_eq_true,decide_eq_true_eq] at hg
   have:=hg.1.1
   exact ⟨by omega,fun h => by omega⟩
  ·exact absurd hc (by decide)
 split at hc
 ·split at hc
  ·rename_i hg
   unfold good4 at hg
   simp only [Bool.and_eq_true,decide_eq_true_eq] at hg
   have:=hg.2.1
   exact ⟨by omega,fun h => by omega⟩
  ·exact absurd hc (by decide)
 ·exact absurd hc (by decide)
theorem rng_of {L:Lk} (h:L.Ok) {k s a:Int} {b:List Int} (hs:0 ≤ s ∧ s < 4294967296) (ha:0 ≤ a ∧ a < 4294967296) {x y:Int} (hx:0 ≤ x ∧ x < 4294967296) (hy:0 ≤ y ∧ y < 4294967296):(⟨k,L.token,x,y,s,a,0,0,0,0,b⟩:Pkt).Rng :=
 ⟨h.token,hx,hy,hs,ha,show (0:Nat) < 18446744073709551616 by decide,show (0:Nat) < 18446744073709551616 by decide⟩
theorem hello_good {L:Lk} (h:L.Fine) (hp:L.phase ≠ 0):(helloP L).Good:=by
 have ht:=h.tok hp
 have hb:=h.ok.boot
 have hy:=h.ok.yours
 refine ⟨rng_of h.ok (by show 0 ≤ (if L.phase = 2 then (1:Int) else 0) ∧ _; split <;> decide) (by decide) (by show 0 ≤ (if L.known = true then L.boot else 0) ∧ _; split <;> omega) (by show 0 ≤ (if L.known = true then L.yours else 0) ∧ _; split <;> omega),?_,Nat.zero_le _⟩
 show checkP 1 L.token (if L.known = true then L.boot else 0) (if L.known = true then L.yours else 0) (if L.phase = 2 then (1:Int) else 0) 0 0 0 0 0 0 = 0
 unfold checkP
 rw [if_pos rfl]
 refine if_pos ?_
 unfold good1
 rw [Bool.and_eq_true]
 refine ⟨decide_eq_true ⟨by omega,by split <;> decide,?_,rfl,rfl,rfl,rfl⟩,nul0⟩
 split
 ·rename_i hk
  have:=h.peer hk
  exact ⟨fun _ => this.2,fun _ => this.1⟩
 ·exact ⟨fun h => h,fun h => h⟩
theorem data_good {L:Lk} (h:L.Fine) (hp:L.phase = 2) (i:Int) (hi0:0 ≤ i) (hi:i < L.queue.length):(dataP L i).Good:=by
 have ht:=h.tok (by omega)
 have hk:=h.peer (h.up hp)
 have hr:L.queue.getD i.toNat [] ∈ L.queue:=by
  rw [List.getD_eq_getElem?_getD,List.getElem?_eq_getElem (by omega)]
  exact List.getElem_mem _
 have h1:=h.ok.rows _ hr
 have h2:=h.full _ hr
 refine ⟨rng_of h.ok (wrap32 _) h.ok.expected h.ok.boot h.ok.yours,?_,h1⟩
 show checkP 2 L.token L.boot L.yours _ L.expected 0 0 0 0 (L.queue.getD i.toNat []).length = 0
 unfold checkP
 rw [if_neg (by decide),if_pos rfl,if_neg (by omega)]
 refine if_pos ?_
 unfold good2
 rw [Bool.and_eq_true]
 exact ⟨decide_eq_true ⟨by omega,hk.1,hk.2,h2,rfl,rfl⟩,nul0⟩
theorem ack_good {L:Lk} (h:L.Fine) (hp:L.phase = 2):(ackP L).Good:=by
 have ht:=h.tok (by omega)
 have hk:=h.peer (h.up hp)
 refine ⟨rng_of h.ok (by decide) h.ok.expected h.ok.boot h.ok.yours,?_,Nat.zero_le _⟩
 show checkP 3 L.token L.boot L.yours 0 L.expected 0 0 0 0 0 = 0
 unfold checkP
 rw [if_neg (by decide),if_neg (by decide),if_pos rfl]
 refine if_pos ?_
 unfold good3
 rw [Bool.and_eq_true]
 exact ⟨decide_eq_true ⟨by omega,hk.1,hk.2,rfl,rfl,rfl,rfl⟩,nul0⟩
theorem new_fine {own:Int} (ho:0 < own ∧ own < 4294967296):(newL own).Fine :=
 ⟨newL_ok own ho,ho.1,fun p hp => (by cases hp),fun h => absurd rfl h,fun h => (by cases h),fun h => (by cases h),fun r hr => (by cases hr),fun _ => rfl⟩
theorem emit_fine {L:Lk} (h:L.Fine) {p:Pkt} (hp:p.Good):(emit_ L p).Fine:=by
 have hok:=emit_ok h.ok p
 unfold emit_ at hok ⊢
 split
 ·rename_i hc
  rw [if_pos hc] at hok
  refine ⟨hok,h.own,fun q hq => ?_,h.tok,h.peer,h.up,h.full,h.idleq⟩
  rcases List.mem_append.1 hq with hq | hq
  ·exact h.good q hq
  ·rw [List.mem_singleton.1 hq]; exact hp
 ·exact h
theorem emit_phase (L:Lk) (p:Pkt):(emit_ L p).phase = L.phase:=by unfold emit_; split <;> rfl
theorem begin_fine {L:Lk} (h:L.Fine) (ht:L.token < 4294967295):(begin_ L).Fine:=by
 have:=h.ok.token
 exact ⟨begin_ok h.ok ht,h.own,h.good,fun _ => by show 0 < L.token + 1; omega,fun x => (by cases x),fun x => absurd (show (1:Int) = 2 from x) (by decide),fun r hr => (by cases hr),fun _ => rfl⟩
theorem open_fine {L:Lk} (h:L.Fine):(openL L).Fine:=by
 have:=h.ok.token
 unfold openL
 split
 ·rename_i hc
  have hb:=begin_fine h (by omega)
  exact emit_fine hb (hello_good hb (show (1:Int) ≠ 0 by decide))
 ·exact h
theorem shut_fine {L:Lk} (h:L.Fine):(shut_ L).Fine :=
 ⟨shut_ok h.ok,h.own,h.good,fun x => absurd rfl x,fun x => (by cases x),fun x => absurd (show (0:Int) = 2 from x) (by decide),fun r hr => (by cases hr),fun _ => rfl⟩
theorem out_fine {L:Lk} (h:L.Fine):(outL L).Fine:=⟨outL_ok h.ok,h.own,fun p hp => (by cases hp),h.tok,h.peer,h.up,h.full,h.idleq⟩
theorem sent_fine {L:Lk} (h:L.Fine) (hd:L.sent < L.queue.length) (h8:L.sent < 8) (d:Int) (hdd:0 ≤ d ∧ d ≤ 1000):({ L with idle:=d,sent:=L.sent + 1 }:Lk).Fine :=
 ⟨sent_ok h.ok hd h8 d hdd,h.own,h.good,h.tok,h.peer,h.up,h.full,h.idleq⟩
theorem up_of_queue {L:Lk} (h:L.Fine) (hd:L.sent < L.queue.length):L.phase = 2:=by
 have:=h.ok.sent
 by_cases hp:L.phase = 2
 ·exact hp
 ·rw [h.idleq hp] at hd; exact absurd hd (by simp; omega)
theorem sendOne_fine {L:Lk} (h:L.Fine) (hd:L.sent < L.queue.length) (h8:L.sent < 8):(sendOne L).Fine:=by
 have hs:=h.ok.sent
 have hu:=up_of_queue h hd
 have hf:=sent_fine h hd h8 (if L.sent = 0 then 0 else L.idle) (by have:=h.ok.idle; split <;> omega)
 exact emit_fine hf (data_good h hu L.sent hs.1 hd)
theorem fillN_fine (n:Nat) {L:Lk} (h:L.Fine):(fillN n L).Fine:=by
 induction n generalizing L with
 | zero => exact h
 | succ n ih =>
  unfold fillN
  split
  ·rename_i hc; exact ih (sendOne_fine h hc.1 hc.2)
  ·exact h
theorem fill_fine {L:Lk} (h:L.Fine):(fill_ L).Fine:=fillN_fine _ h
theorem sendL_fine {L:Lk} (h:L.Fine) (body:List Int):(sendL L body).Fine:=by
 unfold sendL
 split
 ·rename_i hc
  have hx:L.phase = 2 ∧ ¬ (body.length = 0 ∨ 1000 < body.length) ∧ L.queue.length < 64:=by
   unfold sendE at hc
   split at hc
   ·split at hc
    ·exact absurd hc (by decide)
    ·split at hc
     ·exact absurd hc (by decide)
     ·rename_i a b c; exact ⟨a,b,by omega⟩
   ·exact absurd hc (by decide)
  refine fill_fine ⟨sendq_ok h.ok (by omega) hx.2.2,h.own,h.good,h.tok,h.peer,h.up,fun r hr => ?_,fun hp => absurd hx.1 hp⟩
  rcases List.mem_append.1 hr with hr | hr
  ·exact h.full r hr
  ·rw [List.mem_singleton.1 hr]; omega
 ·exact h
theorem rest_fine {L:Lk} (h:L.Fine) {d:Int} (hd:0 ≤ d ∧ d ≤ 1000):(rest_ L d).Fine:=⟨rest_ok h.ok hd,h.own,h.good,h.tok,h.peer,h.up,h.full,h.idleq⟩
theorem sends_fine {L:Lk} (h:L.Fine) (n:Nat) (hn:(n:Int) ≤ L.sent):(sends n L).Fine:=by
 have hs:=h.ok.sent
 induction n with
 | zero => exact h
 | succ n ih => exact emit_fine (ih (by omega)) (data_good h (by
   by_cases hp:L.phase = 2
   ·exact hp
   ·have:=h.idleq hp; rw [this] at hs; simp at hs; omega) n (by omega) (by omega))
theorem tick_fine {L:Lk} (h:L.Fine):(tick_ L).Fine:=by
 have hi:=h.ok.idle
 have hs:=h.ok.sent
 unfold tick_
 split
 ·exact h
 split
 ·exact rest_fine h (by decide)
 split
 ·exact rest_fine h (by omega)
 split
 ·rename_i h0 _ _ _
  exact emit_fine (rest_fine h (by decide)) (hello_good (rest_fine h (by decide)) h0)
 ·exact sends_fine (rest_fine h (by decide)) _ (by show (L.sent.toNat:Int) ≤ L.sent; omega)
theorem peer_fine {L:Lk} (h:L.Fine) (hq:L.queue = []) {b:Int} (hb:0 < b ∧ b < 4294967296) {p:Pkt} (hp:p.Good):(peerL L b p).Fine :=
 ⟨peer_ok h.ok (by omega) hp.rng.mine true,h.own,h.good,h.tok,fun _ => ⟨hb.1,(good_cases hp).1⟩,fun _ => rfl,h.full,h.idleq⟩
theorem bump_fine {L:Lk} (h:L.Fine):(bumpL L).Fine:=⟨bump_ok h.ok,h.own,h.good,h.tok,h.peer,h.up,h.full,h.idleq⟩
theorem cut_fine {L:Lk} (h:L.Fine) {k:Nat} (hk:(k:Int) ≤ L.sent):(cutL L k).Fine :=
 ⟨cut_ok h.ok hk,h.own,h.good,h.tok,h.peer,h.up,fun r hr => h.full r (List.mem_of_mem_drop hr),fun hp => by show L.queue.drop k = []; rw [h.idleq hp]; simp⟩
theorem fillN_phase (n:Nat) (L:Lk):(fillN n L).phase = L.phase:=by
 induction n generalizing L with
 | zero => rfl
 | succ n ih =>
  unfold fillN
  split
  ·rw [ih]; exact emit_phase _ _
  ·rfl
theorem upM_fine {L:Lk} (h:L.Fine) (p:Pkt):(upM L p).Fine:=by unfold upM; split; exact bump_fine h; exact h
theorem upM_sent (L:Lk) (p:Pkt):(upM L p).sent = L.sent:=by unfold upM; split <;> rfl
theorem upM_phase (L:Lk) (p:Pkt):(upM L p).phase = L.phase:=by unfold upM; split <;> rfl
theorem upN_phase (L:Lk) (p:Pkt):(upN L p).phase = L.phase:=by
 unfold upN
 split
 ·exact (fillN_phase _ _).trans (upM_phase L p)
 ·exact upM_phase L p
theorem upN_fine {L:Lk} (h:L.Fine) (p:Pkt):(upN L p).Fine:=by
 unfold upN
 split
 ·rename_i hc; exact fill_fine (cut_fine (upM_fine h p) (by rw [upM_sent]; exact hc.2))
 ·exact upM_fine h p
theorem take_fine {L:Lk} (h:L.Fine) {b:Int} (hb:0 < b ∧ b < 4294967296) {p:Pkt} (hp:p.Good):(takeF L b p).1.Fine:=by
 have ht:=h.ok.token
 have hph:=h.ok.phase
 unfold takeF
 split
 ·exact h
 rename_i h0
 split
 ·split
  ·rename_i h1
   have hq:=h.idleq (by omega)
   have hf:=peer_fine h hq hb hp
   split
   ·have hf2:({ peerL L b p with phase:=2 }:Lk).Fine:=⟨phase_ok hf.ok (by decide),hf.own,hf.good,fun _ => hf.tok (by show L.phase ≠ 0; omega),hf.peer,fun _ => rfl,hf.full,fun x => absurd rfl x⟩
    exact emit_fine hf2 (hello_good hf2 (show (2:Int) ≠ 0 by decide))
   ·exact emit_fine hf (hello_good hf (show L.phase ≠ 0 by omega))
  ·split
   ·show (if p.seq = 0 then emit_ L (helloP L) else L).Fine
    split
    ·exact emit_fine h (hello_good h (fun x => h0 (.inl x)))
    ·exact h
   ·split
    ·exact shut_fine h
    ·rename_i hmx
     have hf:=peer_fine (begin_fine h (by omega)) rfl hb hp
     exact emit_fine hf (hello_good hf (show (1:Int) ≠ 0 by decide))
 ·split
  ·rename_i hu
   show (upL L p).Fine
   unfold upL
   split
   ·exact emit_fine (upN_fine h p) (ack_good (upN_fine h p) ((upN_phase L p).trans hu.1))
   ·exact upN_fine h p
  ·exact h
end Go.Proofs.Ytnkkgofpifhoeaa.Lk
end
section
namespace Go.Proofs.Ytnkkgofpifhoeaa.Win
open Go.RowKit Go.Proofs.Ytnkkgofpifhoeaa.Steps Go.Proofs.YtnkkgofpifhoeaaW.PrintWords
def Full {α:Type} (d:Kd α) (w:World) (base:Nat) (ok:Nat → Prop) (v:Value) (xs:List α):Prop :=
 ∃ g off inner,v = .slice (some ⟨g,off,none⟩) xs.length xs.length ∧ ok g ∧ base ≤ g ∧ g < w.heap.size ∧ xs.length ≤ maxLen ∧ Reps (d.M w base (fun k => ok k ∧ k ≠ g)) d.sz xs inner ∧ ∀ j u,inner[j]? = some u → w.cell? ⟨g,off + j,none⟩ = some u
def Win {α:Type} (d:Kd α) (e:Nat) (w:World) (base:Nat) (ok:Nat → Prop) (v:Value) (xs:List α):Prop:=d.Q e w base ok v xs ∨ Full d w base ok v xs
section
variable {α:Type} {d:Kd α} {e base:Nat} {w w1:World} {ok ok' S:Nat → Prop} {v:Value} {xs:List α}
theorem Win.nil (d:Kd α) (e:Nat) (w:World) (base:Nat) (ok:Nat → Prop):Win d e w base ok (.slice none 0 0) []:=.inl (Kd.Q_nil _ _ _ _ _)
theorem Win.mono (h:Win d e w base ok v xs) (hm:∀ k,ok k → ok' k):Win d e w base ok' v xs:=by
 rcases h with h | ⟨g,off,inner,h1,h2,h3,h4,h5,h6,h7⟩
 ·exact .inl (Kd.Q_mono h hm)
 ·exact .inr ⟨g,off,inner,h1,hm g h2,h3,h4,h5,h6.imp_ (fun _ _ hp => d.M_mono (fun k hk => ⟨hm k hk.1,hk.2⟩) hp),h7⟩
theorem Win.bound (h:Win d e w base ok v xs):Win d e w base (fun k => ok k ∧ k < w.heap.size) v xs:=by
 rcases h with h | ⟨g,off,inner,h1,h2,h3,h4,h5,h6,h7⟩
 ·exact .inl (Kd.Q_mono (Kd.Q_bound h) (fun k hk => ⟨hk.1,hk.2.2.1⟩))
 ·exact .inr ⟨g,off,inner,h1,⟨h2,h4⟩,h3,h4,h5,h6.imp_ (fun _ _ hp => d.M_mono (fun k hk => ⟨⟨hk.1.1,hk.2.2.1⟩,hk.1.2⟩) (d.M_bound hp)),h7⟩
theorem Win.kept (h:Win d e w base ok v xs) (hk:Kept w w1 S) (hd:∀ k,ok k → ¬ S k):Win d e w1 base ok v xs:=by
 rcases h with h | ⟨g,off,inner,h1,h2,h3,h4,h5,h6,h7⟩
 ·exact .inl (Kd.Q_kept h hk hd)
 ·exact .inr ⟨g,off,inner,h1,h2,h3,Nat.lt_of_lt_of_le h4 hk.1,h5,h6.imp_ (fun _ _ hp => Kd.M_kept hp hk (fun k hx => hd k hx.1)),fun j u hu => cell_kept (h7 j u hu) hk (hd g h2)⟩
theorem Win.reads (h:Win d e w base ok v xs):∃ A c inner,v = .slice A xs.length c ∧ xs.length ≤ c ∧ Reps (d.M w base ok) d.sz xs inner ∧ xs.length ≤ maxLen ∧ (0 < xs.length → ∃ g off,A = some ⟨g,off,none⟩ ∧ ok g ∧ base ≤ g ∧ g < w.heap.size ∧ Reps (d.M w base (fun k => ok k ∧ k ≠ g)) d.sz xs inner ∧ ∀ j u,inner[j]? = some u → w.cell? ⟨g,off + j,none⟩ = some u):=by
 rcases h with ⟨h0,inner,⟨hl,hq⟩,hr⟩ | ⟨g,off,inner,h1,h2,h3,h4,h5,h6,h7⟩
 ·have hr':Reps (d.M w base ok) d.sz xs inner:=hr.imp_ (fun _ _ hp => d.M_mono (fun k hk => hk.1) hp)
  rcases hq with ⟨hn,A,hv,_⟩ | ⟨g,off,cap,cur,hv,hb,hg,hnc,hm,hcs,htake⟩
  ·exact ⟨A,0,inner,by rw [hv,hn],by omega,hr',by rw [hn]; exact Nat.zero_le _,fun hp => by omega⟩
  ·refine ⟨some ⟨g,off * d.sz,none⟩,cap,inner,hv,hnc,hr',by omega,fun _ => ⟨g,off * d.sz,rfl,h0 g (by rw [hv]; rfl),hb,blk_lt hg,hr.imp_ (fun _ _ hp => d.M_mono (fun k hk => ⟨hk.1,fun he => hk.2 (by rw [hv,he]; rfl)⟩) hp),fun j u hu => ?_⟩⟩
   rw [cell_of_row w g _ cur e (0,0) hg]
   rw [← htake,List.getElem?_take] at hu
   split at hu
   ·rw [List.getElem?_drop] at hu
    simpa using hu
   ·cases hu
 ·exact ⟨_,_,inner,h1,Nat.le_refl _,h6.imp_ (fun _ _ hp => d.M_mono (fun k hk => hk.1) hp),h5,fun _ => ⟨g,off,rfl,h2,h3,h4,h6,h7⟩⟩
end
theorem Reps.cut {α:Type} {R:α → List Value → Prop} {size:Nat} {ps:List α} {cs:List Value} (h:Reps R size ps cs) (i:Nat) (hi:i < ps.length):Reps R size (ps.eraseIdx i) (cs.take (i * size) ++ cs.drop ((i + 1) * size)):=by
 have hl:=h.1
 have hm:(i + 1) * size ≤ cs.length:=by rw [hl]; exact Nat.mul_le_mul_right _ hi
 have hmi:i * size ≤ cs.length:=Nat.le_trans (Nat.mul_le_mul_right _ (Nat.le_succ i)) hm
 have htl:(cs.take (i * size)).length = i * size:=by rw [List.length_take]; omega
 have he:ps.eraseIdx i = ps.take i ++ ps.drop (i + 1):=by rw [List.eraseIdx_eq_take_drop_succ]
 rw [he]
 refine ⟨?_,fun j p hj => ?_⟩
 ·rw [List.length_append,htl,List.length_drop,List.length_append,List.length_take,List.length_drop,hl,Nat.min_eq_left (by omega),Nat.add_mul i (ps.length - (i + 1)) size,Nat.sub_mul]
 ·by_cases hji:j < i
  ·rw [List.getElem?_append_left (by rw [List.length_take]; omega),List.getElem?_take_of_lt hji] at hj
   have:=h.2 j p hj
   have hjs:j * size + size ≤ i * size:=by rw [← Nat.succ_mul]; exact Nat.mul_le_mul_right _ hji
   rw [List.drop_append_of_le_length (by rw [htl]; omega),List.take_append_of_le_length (by rw [List.length_drop,htl]; omega),List.drop_take,List.take_take,Nat.min_eq_left (by omega)]
   exact this
  ·rw [List.getElem?_append_right (by rw [List.length_take]; omega),List.length_take,Nat.min_eq_left (by omega),List.getElem?_drop] at hj
   have:=h.2 (i + 1 + (j - i)) p hj
   have e1:j * size = (cs.take (i * size)).length + (j - i) * size:=by rw [htl,← Nat.add_mul]; congr 1; omega
   rw [e1,List.drop_append,List.drop_eq_nil_of_le (by omega),List.nil_append,Nat.add_sub_cancel_left,List.drop_drop]
   rw [show (i + 1) * size + (j - i) * size = (i + 1 + (j - i)) * size from (Nat.add_mul _ _ _).symm]
   exact this
section
variable {α:Type} {P:Program} {d:Kd α} {e base:Nat} {w w1:World} {ok S:Nat → Prop} {v:Value} {xs:List α}
theorem below_of_grown (h:w.grownBy w1 none):Below w.heap.size w w1:=⟨h.os,h.tape,h.output,h.size,fun k hk => h.block k hk (by simp)⟩
theorem Win.of_own {inner:List Value} {ys:List α} {n:Nat} (hn:n = ys.length) (ho:w1.ownsRow w.heap.size e d.sz v n inner) (hg:w.grownBy w1 none) (hb:base ≤ w.heap.size) (hr:Reps (d.M w base ok) d.sz ys inner) (h0:0 < n):Win d e w1 base (fun k => ok k ∨ w.heap.size ≤ k) v ys:=by
 subst hn
 obtain ⟨g',cap',he,hgb,_⟩:=ho.form h0
 have hbl:=below_of_grown hg
 refine .inl ⟨fun k hk => ?_,inner,q_lower (q_of_own ho) hb,hr.imp_ (fun _ _ hp => ?_)⟩
 ·rw [he] at hk
  injection hk with hk
  exact .inr (hk ▸ hgb)
 ·refine d.M_mono (fun k hk => ⟨Or.inl hk.1,fun hx => ?_⟩) (Kd.M_below (d.M_bound hp) hbl)
  have h1:=hk.2.2.1
  rw [he] at hx
  injection hx with hx
  have hx':k = g':=hx
  omega
theorem Win.cut (t ty:TypeId) (z:Value) (bytes:Nat) (ht:P.underlying t = some (.slice e)) (hinfo:(P.info? e).map (fun i => (i.zero,i.size,i.bytes)) = some (some z,d.sz,bytes)) (hz:z.cells.size = d.sz) (hs0:0 < d.sz)
  {A:Option Addr} {c:Nat} (h:Win d e w base ok (.slice A xs.length c) xs) (hbase:base ≤ w.heap.size) (i:Nat) (hi:i < xs.length) (hb:xs.length * bytes ≤ 140737488355328) :
  ∃ v' w',(Builtin.append_ #[t,t] ty #[.slice A i i,.slice (if c = i + 1 then A else A.map (·.add ((i + 1) * d.sz))) (xs.length - (i + 1)) (c - (i + 1))]).run P w = .ok v' w' ∧ Win d e w' base (fun k => ok k ∨ w.heap.size ≤ k) v' (xs.eraseIdx i) ∧ Below w.heap.size w w':=by
 obtain ⟨A',c',inner,hv,hlc,hr,hmx,hA⟩:=h.reads
 injection hv with h1 h2 h3
 subst h1 h3
 obtain ⟨g,off,rfl,hg,hbg,hgl,hrg,hcell⟩:=hA (by omega)
 obtain ⟨i0,hi0,hzz⟩:=Option.map_eq_some_iff.1 hinfo
 simp only [Prod.mk.injEq] at hzz
 obtain ⟨hz0,hz1,hz2⟩:=hzz
 have hil:=hr.1
 have hle:(i + 1) * d.sz ≤ inner.length:=by rw [hil]; exact Nat.mul_le_mul_right _ hi
 have hls:(inner.take (i * d.sz)).length = i * d.sz:=by
  have:i * d.sz ≤ (i + 1) * d.sz:=Nat.mul_le_mul_right _ (Nat.le_succ i)
  rw [List.length_take]; omega
 have hlen:(xs.eraseIdx i).length = i + (xs.length - (i + 1)):=by rw [List.length_eraseIdx_of_lt hi]; omega
 by_cases hm:xs.length - (i + 1) = 0
 ·refine ⟨.slice (some ⟨g,off,none⟩) i i,w,?_,?_,Below.refl _ _⟩
  ·have:=run_append_room_cells (P:=P) (w:=w) t ty e i0 ht hi0 g off i i (if c = i + 1 then ⟨g,off,none⟩ else (⟨g,off,none⟩:Addr).add ((i + 1) * d.sz)) 0 (c - (i + 1)) [] (by simp) (fun j u hu => by simp at hu) (fun u hu => by cases hu) (by omega) (fun j hj => by simp at hj) (fun j hj => by simp at hj)
   have ea:(if c = i + 1 then some (⟨g,off,none⟩:Addr) else (some (⟨g,off,none⟩:Addr)).map (·.add ((i + 1) * d.sz))) = some (if c = i + 1 then ⟨g,off,none⟩ else (⟨g,off,none⟩:Addr).add ((i + 1) * d.sz)):=by split <;> rfl
   rw [ea,hm]
   exact this
  ·have hx:xs.length = i + 1:=by omega
   have hex:xs.eraseIdx i = xs.take i:=by rw [List.eraseIdx_eq_take_drop_succ,List.drop_of_length_le (by omega),List.append_nil]
   refine .inr ⟨g,off,inner.take (i * d.sz),by rw [hlen,hm]; rfl,.inl hg,hbg,hgl,by rw [hlen]; omega,?_,fun j u hu => ?_⟩
   ·have:=Reps.cut hrg i hi
    rw [List.drop_of_length_le (l:=inner) (by rw [hil,hx]; exact Nat.le_refl _),List.append_nil] at this
    exact this.imp_ (fun _ _ hp => d.M_mono (fun k hk => ⟨.inl hk.1,hk.2⟩) hp)
   ·rw [List.getElem?_take] at hu
    split at hu
    ·exact hcell j u hu
    ·cases hu
 ·have hc:¬ c = i + 1:=by omega
  obtain ⟨v',w',hrun,ho,hgr⟩:=run_append_arg_grows (P:=P) (w:=w) t ty e i0 z d.sz bytes ht hi0 hz0 hz1 hz2 hz hs0 ⟨g,off,none⟩ i i (inner.take (i * d.sz)) hls (fun j u hu => by
    rw [List.getElem?_take] at hu
    split at hu
    ·rw [Addr.add_lit]; exact hcell j u hu
    ·cases hu) ((⟨g,off,none⟩:Addr).add ((i + 1) * d.sz)) (xs.length - (i + 1)) (c - (i + 1)) (inner.drop ((i + 1) * d.sz)) (by rw [List.length_drop,hil,Nat.sub_mul]) (fun j u hu => by
    rw [List.getElem?_drop] at hu
    rw [Addr.add_lit,Addr.add_lit]
    have:=hcell _ u hu
    rwa [Nat.add_assoc]) (by omega) (by omega) (by
    have:(i + (xs.length - (i + 1))) * bytes ≤ xs.length * bytes:=Nat.mul_le_mul_right _ (by omega)
    omega)
  refine ⟨v',w',?_,Win.of_own hlen.symm ho hgr hbase (Reps.cut hr i hi) (by omega),below_of_grown hgr⟩
  rw [if_neg hc]
  exact hrun
theorem Win.put {W:World} (t ty:TypeId) (z:Value) (bytes:Nat) (ht:P.underlying t = some (.slice e)) (hinfo:(P.info? e).map (fun i => (i.zero,i.size,i.bytes)) = some (some z,d.sz,bytes)) (hz:z.cells.size = d.sz) (hs0:0 < d.sz) (hb0:0 < bytes)
  (h:Win d e W base ok v xs) (hbase:base ≤ W.heap.size) (p:α) (cs:List Value) (hp:d.M W base ok p cs) (hfree:d.Q e W base ok v xs → d.M W base (fun k => ok k ∧ some k ≠ v.ownBlock) p cs) (hl:(xs.length + 1) * bytes ≤ 140737488355328) :
  ∃ v1 w1,(Builtin.append_ #[t,t] ty #[v,.slice (some ⟨W.heap.size,0,none⟩) 1 1]).run P (W.alloc (.cells cs.toArray e)) = .ok v1 w1 ∧ Win d e w1 base (fun k => ok k ∨ W.heap.size ≤ k) v1 (xs ++ [p]) ∧ Kept W w1 (fun k => ok k ∧ ∃ cells,W.heap[k]? = some (.cells cells e (0,0))) ∧ Below base W w1:=by
 rcases h with h | h
 ·obtain ⟨v1,w1,hrun,hq,hb,hg,_⟩:=Kd.Q_run (P:=P) d (w0:=W) base t ty e z bytes ht hinfo hz hs0 hb0 v xs p cs (fun k => ok k ∨ W.heap.size ≤ k) (fun k => ok k ∧ some k ≠ v.ownBlock) (hfree h) (fun k hk => ⟨.inl hk.1,hk.2⟩) (fun k hk => .inr hk) (Kd.Q_mono h (fun _ hk => .inl hk)) (Below.refl _ _) hbase hl
  exact ⟨v1,w1,hrun,.inl hq,Kept.of_grown hg (Kept.refl _ _) (fun k hk => .inl ⟨h.1 k hk,Kd.Q_typed h k hk⟩),hb⟩
 ·have hF:Win d e W base ok v xs:=.inr h
  obtain ⟨g,off,inner,hv,hg,hbg,hgl,hmx,hr,hcell⟩:=h
  obtain ⟨i0,hi0,hzz⟩:=Option.map_eq_some_iff.1 hinfo
  simp only [Prod.mk.injEq] at hzz
  obtain ⟨hz0,hz1,hz2⟩:=hzz
  have hcl:=d.K_len (d.K_of_M hp)
  have hba:Below W.heap.size W (W.alloc (.cells cs.toArray e)):=(Below.refl _ _).alloc (Nat.le_refl _) _
  have hlen:xs.length + 1 ≤ 140737488355328:=Nat.le_trans (Nat.le_mul_of_pos_right _ hb0) hl
  obtain ⟨v',w',hrun,ho,hgr⟩:=run_append_arg_grows (P:=P) (w:=W.alloc (.cells cs.toArray e)) t ty e i0 z d.sz bytes ht hi0 hz0 hz1 hz2 hz hs0 ⟨g,off,none⟩ xs.length xs.length inner hr.1 (fun j u hu => by
    rw [Addr.add_lit]
    exact cell_kept (hcell j u hu) (Kept.of_below hba (fun _ => False)) (fun h => h)) ⟨W.heap.size,0,none⟩ 1 1 cs (by rw [hcl,Nat.one_mul]) (fun j u hu => by
    rw [Addr.add_lit,Nat.zero_add,cell_of_row _ W.heap.size _ cs.toArray e (0,0) (heap_alloc_new W _)]
    simpa using hu) (by omega) (by simp only [maxLen]; omega) hl
  have hr2:Reps (d.M (W.alloc (.cells cs.toArray e)) base ok) d.sz (xs ++ [p]) (inner ++ cs) :=
   Reps.snoc (hr.imp_ (fun _ _ hx => d.M_mono (fun k hk => hk.1) (Kd.M_below hx hba))) (Kd.M_below hp hba) hcl
  have hw:=Win.of_own (d:=d) (e:=e) (base:=base) (ok:=ok) (v:=v') (ys:=xs ++ [p]) (n:=xs.length + 1) (by simp) ho hgr (Nat.le_trans hbase hba.size) hr2 (by omega)
  rw [hv]
  exact ⟨v',w',hrun,hw.mono (fun k hk => hk.elim .inl (fun hx => .inr (Nat.le_trans hba.size hx))),Kept.of_below (hba.trans ((below_of_grown hgr).mono hba.size)) _,(hba.trans ((below_of_grown hgr).mono hba.size)).mono hbase⟩
theorem Win.elem (h:Win d e w base ok v xs) (z:α) (i:Nat) (hi:i < xs.length):∃ g off c cs,v = .slice (some ⟨g,off,none⟩) xs.length c ∧ cs.length = d.sz ∧ d.M w base ok (xs.getD i z) cs ∧ ok g ∧ ∀ j u,cs[j]? = some u → w.cell? ⟨g,off + i * d.sz + j,none⟩ = some u:=by
 obtain ⟨A,c,inner,hv,hlc,hr,hmx,hA⟩:=h.reads
 obtain ⟨g,off,rfl,hg,hbg,hgl,hrg,hcell⟩:=hA (by omega)
 have hle:(i + 1) * d.sz ≤ inner.length:=by rw [hr.1]; exact Nat.mul_le_mul_right _ hi
 have hle2:i * d.sz + d.sz ≤ inner.length:=by rwa [Nat.succ_mul] at hle
 have hm:=hr.2 i _ (List.getElem?_eq_getElem hi)
 refine ⟨g,off,c,(inner.drop (i * d.sz)).take d.sz,hv,by rw [List.length_take,List.length_drop]; omega,by rw [List.getD_eq_getElem?_getD,List.getElem?_eq_getElem hi]; exact hm,hg,fun j u hu => ?_⟩
 rw [List.getElem?_take] at hu
 split at hu
 ·rw [List.getElem?_drop] at hu
  rw [Nat.add_assoc]
  exact hcell _ u hu
 ·cases hu
theorem append_step {ops:Array Oper} {o:Oper} {a:Act} {W w1:World} {Kc:Act → World → Prop} {Q':Exit → Act → World → Prop} (hw:Region.wanted o (yielded ops a.tmps) = true) (s x:Operand) (t:TypeId) (ho:o.op = .call { callee:=.builtin .append,args:=#[s,x],argTypes:=#[t,t] }) (y v1:Value)
  (hs:a.eval s = v) (hx:a.eval x = y) (hr:(Builtin.append_ #[t,t] o.type #[v,y]).run P W = .ok v1 w1) (h:Kc (a.put o.dst v1) w1):if Region.wanted o (yielded ops a.tmps) = true then Oper.wp P o a W Kc Q' else Kc (a.put o.dst undef) W:=by
 rw [if_pos hw]
 unfold Oper.wp execOp
 simp only [ho,resolve,invoke,builtin,Sem.run_bind,Sem.run_pure,Result.andThen_ok,List.map_toArray,List.map_cons,List.map_nil,hs,hx,hr]
 exact h
end
end Go.Proofs.Ytnkkgofpifhoeaa.Win
end
section
namespace Go.Proofs.Ytnkkgofpifhoeaa.Pr
open Go.RowKit Go.Proofs.Ytnkkgofpifhoeaa.Lk Go.Proofs.Ytnkkgofpifhoeaa.Win Go.Proofs.YtnkkgofpifhoeaaW.PrintWords
structure Ent where
 kind:Int
 boot:Int
 mine:Int
 peer:Int
 yours:Int
 body:List Int
def ent:Kd Ent:=Kd.iso (Kd.pair (Kd.int .i64) (Kd.pair u32s (Kd.pair u32s (Kd.pair u32s (Kd.pair u32s Lk.bytes))))) (fun x => (x.kind,x.boot,x.mine,x.peer,x.yours,x.body))
def ecells (x:Ent) (b:Value):List Value:=[.int .i64 x.kind,.int .u32 x.boot,.int .u32 x.mine,.int .u32 x.peer,.int .u32 x.yours,b]
theorem ent_sz:ent.sz = 6:=rfl
theorem ent_E:ent.E = [5]:=rfl
theorem ent_M {w:World} {base:Nat} {ok:Nat → Prop} {x:Ent} {cs:List Value}:ent.M w base ok x cs ↔ ∃ b,cs = ecells x b ∧ (Kd.int .u8).R 5 w base ok b x.body:=by
 constructor
 ·rintro ⟨_,_,rfl,rfl,_,_,rfl,rfl,_,_,rfl,rfl,_,_,rfl,rfl,_,_,rfl,rfl,b,rfl,h⟩
  exact ⟨b,rfl,h⟩
 ·rintro ⟨b,rfl,h⟩
  exact ⟨_,_,rfl,rfl,_,_,rfl,rfl,_,_,rfl,rfl,_,_,rfl,rfl,_,_,rfl,rfl,b,rfl,h⟩
structure Fl where
 dst:Int
 boot:Int
 p:Pkt
def fly:Kd Fl:=Kd.iso (Kd.pair (Kd.int .i64) (Kd.pair u32s pkt)) (fun f => (f.dst,f.boot,f.p))
def fcells (f:Fl) (b:Value):List Value:=.int .i64 f.dst :: .int .u32 f.boot :: cells f.p b
theorem fly_E:fly.E = [5]:=rfl
theorem fly_M {w:World} {base:Nat} {ok:Nat → Prop} {f:Fl} {cs:List Value}:fly.M w base ok f cs ↔ ∃ b,cs = fcells f b ∧ (Kd.int .u8).R 5 w base ok b f.p.body:=by
 constructor
 ·rintro ⟨_,_,rfl,rfl,_,_,rfl,rfl,hp⟩
  obtain ⟨b,rfl,h⟩:=pkt_M.1 hp
  exact ⟨b,rfl,h⟩
 ·rintro ⟨b,rfl,h⟩
  exact ⟨_,_,rfl,rfl,_,_,rfl,rfl,pkt_M.2 ⟨b,rfl,h⟩⟩
structure Sd where
 end_:Lk
 boot:Int
 log:List Ent
 last:Ent
structure Pr where
 sd:Nat → Sd
 way:List Fl
def Pr.set (X:Pr) (s:Nat) (d:Sd):Pr:={ X with sd:=fun t => if t = s then d else X.sd t }
theorem Pr.set_eq (X:Pr) (s:Nat) (d:Sd):(X.set s d).sd s = d:=if_pos rfl
theorem Pr.set_ne (X:Pr) {s t:Nat} (h:t ≠ s) (d:Sd):(X.set s d).sd t = X.sd t:=if_neg h
def prow (X:Pr) (ge:Nat → Nat) (lv:Nat → Value) (wv:Value):Array Value :=
 #[.pointer (some ⟨ge 0,0,none⟩),.int .u32 (X.sd 0).boot,lv 0,.int .i64 (X.sd 0).last.kind,.int .u32 (X.sd 0).last.boot,.int .u32 (X.sd 0).last.mine,.int .u32 (X.sd 0).last.peer,.int .u32 (X.sd 0).last.yours,.slice none 0 0,
  .pointer (some ⟨ge 1,0,none⟩),.int .u32 (X.sd 1).boot,lv 1,.int .i64 (X.sd 1).last.kind,.int .u32 (X.sd 1).last.boot,.int .u32 (X.sd 1).last.mine,.int .u32 (X.sd 1).last.peer,.int .u32 (X.sd 1).last.yours,.slice none 0 0,wv]
structure PAt (w:World) (B gp:Nat) (ge:Nat → Nat) (own:Nat → Nat → Prop) (X:Pr) (lv:Nat → Value) (wv:Value):Prop where
 blk:w.heap[gp]? = some (.cells (prow X ge lv wv) 143 (0,0))
 low:B ≤ gp
 gp0:∀ i,¬ own i gp
 disj:∀ i j k,own i k → own j k → i = j
 lt:∀ i k,own i k → k < w.heap.size
 e:∀ s,s < 2 → Lk.End w B (own (1 + s)) (ge s) (X.sd s).end_
 l:∀ s,s < 2 → ent.R 67 w B (own (3 + s)) (lv s) (X.sd s).log
 way:Win fly 150 w B (own 5) wv X.way
def grow (own:Nat → Nat → Prop) (i:Nat) (w w':World):Nat → Nat → Prop:=fun j k => own j k ∨ j = i ∧ w.heap.size ≤ k ∧ k < w'.heap.size
section
variable {w w':World} {B gp:Nat} {ge:Nat → Nat} {own:Nat → Nat → Prop} {X:Pr} {lv:Nat → Value} {wv:Value} (h:PAt w B gp ge own X lv wv)
include h
theorem PAt.hB:B ≤ w.heap.size:=Nat.le_trans h.low (Nat.le_of_lt (blk_lt h.blk))
theorem PAt.sub (hb:Below w.heap.size w w'):PAt w' B gp ge own X lv wv:=by
 have hk:Kept w w' (fun _ => False):=Kept.of_below hb _
 exact ⟨blk_kept h.blk hk (fun x => x),h.low,h.gp0,h.disj,fun i k hx => Nat.lt_of_lt_of_le (h.lt i k hx) hb.size,fun s hs => (h.e s hs).kept hk (fun _ _ x => x),fun s hs => Kd.R_kept (h.l s hs) hk (fun _ _ x => x),h.way.kept hk (fun _ _ x => x)⟩
theorem grow_disj (i:Nat):∀ a b k,grow own i w w' a k → grow own i w w' b k → a = b:=by
 intro a b k ha hb
 rcases ha with ha | ha <;> rcases hb with hb | hb
 ·exact h.disj a b k ha hb
 ·have:=h.lt a k ha; omega
 ·have:=h.lt b k hb; omega
 ·omega
theorem grow_gp (i:Nat):∀ a,¬ grow own i w w' a gp:=by
 intro a ha
 have:=blk_lt h.blk
 rcases ha with ha | ha
 ·exact h.gp0 a ha
 ·omega
theorem grow_lt (i:Nat) (hs:w.heap.size ≤ w'.heap.size):∀ a k,grow own i w w' a k → k < w'.heap.size:=by
 intro a k ha
 rcases ha with ha | ha
 ·have:=h.lt a k ha; omega
 ·exact ha.2.2
theorem PAt.turn {s:Nat} (hs:s < 2) {L:Lk} (ht:Turns w B (own (1 + s)) (ge s) L w'):PAt w' B gp ge (grow own (1 + s) w w') (X.set s { X.sd s with end_:=L }) lv wv:=by
 have hk:=ht.2.1
 have hz:=hk.1
 have hrow:prow (X.set s { X.sd s with end_:=L }) ge lv wv = prow X ge lv wv:=by
  have h0:s = 0 ∨ s = 1:=by omega
  rcases h0 with rfl | rfl <;> rfl
 refine ⟨hrow ▸ blk_kept h.blk hk (h.gp0 _),h.low,grow_gp h _,grow_disj h _,grow_lt h _ hz,fun t ht' => ?_,fun t ht' => ?_,(h.way.kept hk (fun k hx hy => by have:=h.disj 5 (1 + s) k hx hy; omega)).mono (fun k hx => .inl hx)⟩
 ·by_cases hts:t = s
  ·subst hts
   rw [Pr.set_eq]
   exact ht.1.mono (fun k hx => hx.elim .inl (fun hn => .inr ⟨rfl,hn⟩))
  ·rw [Pr.set_ne X hts]
   exact ((h.e t ht').kept hk (fun k hx hy => by have:=h.disj (1 + t) (1 + s) k hx hy; omega)).mono (fun k hx => .inl hx)
 ·have:((X.set s { X.sd s with end_:=L }).sd t).log = (X.sd t).log:=by
   by_cases hts:t = s
   ·subst hts; rw [Pr.set_eq]
   ·rw [Pr.set_ne X hts]
  rw [this]
  exact Kd.R_mono (Kd.R_kept (h.l t ht') hk (fun k hx hy => by have:=h.disj (3 + t) (1 + s) k hx hy; omega)) (fun k hx => .inl hx)
theorem PAt.newway {w1:World} {v1:Value} {ws:List Fl} (hk:Kept w w1 (own 5)) (hw:Win fly 150 w1 B (fun k => own 5 k ∨ w.heap.size ≤ k) v1 ws):PAt (w1.setCell ⟨gp,18,none⟩ v1) B gp ge (grow own 5 w w1) { X with way:=ws } lv v1:=by
 have hz:=hk.1
 have hg:=blk_lt h.blk
 have hk2:Kept w1 (w1.setCell ⟨gp,18,none⟩ v1) (fun k => k = gp):=Kept.setCell (S:=fun k => k = gp) (Kept.refl w1 _) (p:=⟨gp,18,none⟩) (.inl rfl) v1
 have hz2:(w1.setCell ⟨gp,18,none⟩ v1).heap.size = w1.heap.size:=by simp [World.setCell]
 refine ⟨blk_put (blk_kept h.blk hk (h.gp0 _)) 18 v1 rfl,h.low,grow_gp h _,grow_disj h _,fun a k hx => by rw [hz2]; exact grow_lt h 5 hz a k hx,fun t ht' => ?_,fun t ht' => ?_,?_⟩
 ·exact (((h.e t ht').kept hk (fun k hx hy => by have:=h.disj (1 + t) 5 k hx hy; omega)).kept hk2 (fun k hx hy => h.gp0 _ (hy ▸ hx))).mono (fun k hx => .inl hx)
 ·exact Kd.R_mono (Kd.R_kept (Kd.R_kept (h.l t ht') hk (fun k hx hy => by have:=h.disj (3 + t) 5 k hx hy; omega)) hk2 (fun k hx hy => h.gp0 _ (hy ▸ hx))) (fun k hx => .inl hx)
 ·refine (hw.bound.kept hk2 (fun k hx hy => ?_)).mono (fun k hx => hx.1.elim .inl (fun hn => .inr ⟨rfl,hn,hx.2⟩))
  subst hy
  rcases hx.1 with hx | hx
  ·exact h.gp0 _ hx
  ·omega
theorem PAt.newlog {s:Nat} (hs:s < 2) {w1:World} {v1:Value} {ls:List Ent} (hk:Kept w w1 (own (3 + s))) (hw:ent.R 67 w1 B (fun k => own (3 + s) k ∨ w.heap.size ≤ k) v1 ls):PAt (w1.setCell ⟨gp,9 * s + 2,none⟩ v1) B gp ge (grow own (3 + s) w w1) (X.set s { X.sd s with log:=ls }) (fun t => if t = s then v1 else lv t) wv:=by
 have hz:=hk.1
 have hg:=blk_lt h.blk
 have hk2:Kept w1 (w1.setCell ⟨gp,9 * s + 2,none⟩ v1) (fun k => k = gp):=Kept.setCell (S:=fun k => k = gp) (Kept.refl w1 _) (p:=⟨gp,9 * s + 2,none⟩) (.inl rfl) v1
 have hz2:(w1.setCell ⟨gp,9 * s + 2,none⟩ v1).heap.size = w1.heap.size:=by simp [World.setCell]
 have hb1:=blk_kept h.blk hk (h.gp0 _)
 have hrow:w1.heap[gp]? = some (.cells (prow X ge lv wv) 143 (0,0)):=hb1
 refine ⟨?_,h.low,grow_gp h _,grow_disj h _,fun a k hx => by rw [hz2]; exact grow_lt h (3 + s) hz a k hx,fun t ht' => ?_,fun t ht' => ?_,?_⟩
 ·have h0:s = 0 ∨ s = 1:=by omega
  rcases h0 with rfl | rfl
  ·exact blk_put hrow 2 v1 rfl
  ·exact blk_put hrow 11 v1 rfl
 ·have:((X.set s { X.sd s with log:=ls }).sd t).end_ = (X.sd t).end_:=by
   by_cases hts:t = s
   ·subst hts; rw [Pr.set_eq]
   ·rw [Pr.set_ne X hts]
  rw [this]
  exact (((h.e t ht').kept hk (fun k hx hy => by have:=h.disj (1 + t) (3 + s) k hx hy; omega)).kept hk2 (fun k hx hy => h.gp0 _ (hy ▸ hx))).mono (fun k hx => .inl hx)
 ·by_cases hts:t = s
  ·subst hts
   rw [Pr.set_eq]
   show ent.R 67 _ B _ (if t = t then v1 else lv t) ls
   rw [if_pos rfl]
   refine Kd.R_mono (Kd.R_kept (Kd.R_bound hw) hk2 (fun k hx hy => ?_)) (fun k hx => hx.1.elim .inl (fun hn => .inr ⟨rfl,hn,hx.2.2.1⟩))
   subst hy
   rcases hx.1 with hx | hx
   ·exact h.gp0 _ hx
   ·omega
  ·rw [Pr.set_ne X hts]
   show ent.R 67 _ B _ (if t = s then v1 else lv t) _
   rw [if_neg hts]
   exact Kd.R_mono (Kd.R_kept (Kd.R_kept (h.l t ht') hk (fun k hx hy => by have:=h.disj (3 + t) (3 + s) k hx hy; omega)) hk2 (fun k hx hy => h.gp0 _ (hy ▸ hx))) (fun k hx => .inl hx)
 ·exact ((h.way.kept hk (fun k hx hy => by have:=h.disj 5 (3 + s) k hx hy; omega)).kept hk2 (fun k hx hy => h.gp0 _ (hy ▸ hx))).mono (fun k hx => .inl hx)
end
end Go.Proofs.Ytnkkgofpifhoeaa.Pr
end
section
namespace Go.Proofs.Ytnkkgofpifhoeaa.Pr
open Go.RowKit Go.Proofs.Ytnkkgofpifhoeaa.Base Go.Proofs.Ytnkkgofpifhoeaa.Steps Go.Proofs.Ytnkkgofpifhoeaa.Lk Go.Proofs.Ytnkkgofpifhoeaa.Win Go.Proofs.YtnkkgofpifhoeaaW.PrintWords Go.Proofs.YtnkkgofpifhoeaaW.PrintLast
def putX (X:Pr) (f:Fl):Pr:=if X.way.length < 1024 then { X with way:=X.way ++ [f] } else X
theorem info150:(Try.prog.info? 150).map (fun i => (i.zero,i.size,i.bytes)) = some (some (.agg #[.int .i64 0,.int .u32 0,.int .i64 0,.int .u32 0,.int .u32 0,.int .u32 0,.int .u32 0,.int .u32 0,.int .u32 0,.int .u32 0,.complex .f64 0 0,.slice none 0 0]),12,96):=by kernel_rfl
def Grew (w:World) (own own':Nat → Nat → Prop):Prop:=(∀ i k,own i k → own' i k) ∧ ∀ i k,own' i k → own i k ∨ w.heap.size ≤ k
theorem Grew.refl (w:World) (own:Nat → Nat → Prop):Grew w own own:=⟨fun _ _ h => h,fun _ _ h => .inl h⟩
theorem Grew.grow {w w2 w3:World} {own:Nat → Nat → Prop} (i:Nat) (h:w.heap.size ≤ w2.heap.size):Grew w own (grow own i w2 w3):=⟨fun _ _ h => .inl h,fun _ _ hx => hx.elim .inl (fun y => .inr (Nat.le_trans h y.2.1))⟩
theorem Grew.trans {w w1:World} {own own1 own2:Nat → Nat → Prop} (h1:Grew w own own1) (h:w.heap.size ≤ w1.heap.size) (h2:Grew w1 own1 own2):Grew w own own2:=⟨fun i k hx => h2.1 i k (h1.1 i k hx),fun i k hx => (h2.2 i k hx).elim (h1.2 i k) (fun y => .inr (Nat.le_trans h y))⟩
def Moves (w:World) (B gp:Nat) (ge:Nat → Nat) (own:Nat → Nat → Prop) (X:Pr) (S:Nat → Prop) (w':World):Prop :=
 ∃ own' lv wv,PAt w' B gp ge own' X lv wv ∧ Grew w own own' ∧ Kept w w' S ∧ Below B w w'
theorem fly_free {w:World} {B:Nat} {ok:Nat → Prop} {f:Fl} {cs:List Value} {v:Value} {ws:List Fl} (hM:fly.M w B ok f cs) (hw:Win fly 150 w B ok v ws) (hq:fly.Q 150 w B ok v ws):fly.M w B (fun k => ok k ∧ some k ≠ v.ownBlock) f cs:=by
 refine fly.M_mono (fun k hk => ⟨hk.1,fun he => ?_⟩) (fly.M_bound hM)
 obtain ⟨h1,_,_,t,ht,c,hc⟩:=hk
 obtain ⟨c2,hc2⟩:=Kd.Q_typed hq k he.symm
 rw [hc] at hc2
 injection hc2 with hc2
 injection hc2 with _ hc2 _
 subst hc2
 rw [fly_E] at ht
 exact absurd ht (by decide)
theorem put_run {w:World} {B gp:Nat} {ge:Nat → Nat} {own:Nat → Nat → Prop} {X:Pr} {lv:Nat → Value} {v:Value} (h:PAt w B gp ge own X lv v) (f:Fl) (b:Value) (hM:fly.M w B (own 5) f (fcells f b)) (hl:X.way.length < 1024) :
  ∃ v1 w1,(Builtin.append_ #[141,141] 141 #[v,.slice (some ⟨w.heap.size,0,none⟩) 1 1]).run Try.prog (w.alloc (.cells (fcells f b).toArray 150)) = .ok v1 w1 ∧ Win fly 150 w1 B (fun k => own 5 k ∨ w.heap.size ≤ k) v1 (X.way ++ [f]) ∧ Kept w w1 (fun k => own 5 k ∧ ∃ cells,w.heap[k]? = some (.cells cells 150 (0,0))) ∧ Below B w w1 :=
 Win.put (P:=Try.prog) 141 141 (.agg #[.int .i64 0,.int .u32 0,.int .i64 0,.int .u32 0,.int .u32 0,.int .u32 0,.int .u32 0,.int .u32 0,.int .u32 0,.int .u32 0,.complex .f64 0 0,.slice none 0 0]) 96 Try.underlying141 info150 rfl (by decide) (by decide) h.way h.hB f (fcells f b) hM (fun hq => fly_free hM h.way hq) (by omega)
theorem put_moves {w w2 w3:World} {B gp:Nat} {ge:Nat → Nat} {own:Nat → Nat → Prop} {X:Pr} {lv:Nat → Value} {wv v1:Value} {ws:List Fl} (h:PAt w B gp ge own X lv wv) (hb:Below w.heap.size w w2) (hW:Win fly 150 w3 B (fun k => own 5 k ∨ w2.heap.size ≤ k) v1 ws)
  (hk:Kept w2 w3 (fun k => own 5 k ∧ ∃ cells,w2.heap[k]? = some (.cells cells 150 (0,0)))) (hb3:Below B w2 w3):Moves w B gp ge own { X with way:=ws } (fun k => k = gp ∨ own 5 k ∧ ∃ cells,w.heap[k]? = some (.cells cells 150 (0,0))) (w3.setCell ⟨gp,18,none⟩ v1):=by
 have h2:=h.sub hb
 refine ⟨_,lv,v1,h2.newway (hk.mono (fun k hx => hx.1)) hW,Grew.grow 5 hb.size,?_,?_⟩
 ·refine Kept.setCell (p:=⟨gp,18,none⟩) ((Kept.of_below hb _).then_ hk (fun k hx => .inl (.inr ⟨hx.1,?_⟩))) (.inl (.inl rfl)) _
  obtain ⟨cells,hc⟩:=hx.2
  exact ⟨cells,(hb.block k (h.lt 5 k hx.1)).symm.trans hc⟩
 ·exact ((hb.mono h.hB).trans hb3).setCell (p:=⟨gp,18,none⟩) h.low _
set_option maxRecDepth 100000 in
set_option maxHeartbeats 2000000 in
theorem put_of {w:World} {B gp:Nat} {ge:Nat → Nat} {own:Nat → Nat → Prop} {X:Pr} {lv:Nat → Value} {wv:Value} (h:PAt w B gp ge own X lv wv) (f:Fl) (b:Value) (hM:fly.M w B (own 5) f (fcells f b)) (hlw:X.way.length ≤ 1024) :
  Calls Try.prog 83 #[.pointer (some ⟨gp,0,none⟩),.agg #[.int .i64 f.dst,.int .u32 f.boot,.int .i64 f.p.kind,.int .u32 f.p.mine,.int .u32 f.p.boot,.int .u32 f.p.yours,.int .u32 f.p.seq,.int .u32 f.p.ack,.int .u32 f.p.stamp,.int .u32 f.p.echo,.complex .f64 f.p.zr f.p.zi,b]] w fun e w' => e = .returned (.tuple #[]) ∧ Moves w B gp ge own (putX X f) (fun k => k = gp ∨ own 5 k ∧ ∃ cells,w.heap[k]? = some (.cells cells 150 (0,0))) w':=by
 obtain ⟨Aw,cw,_,hwv,hlc,_⟩:=h.way.reads
 subst hwv
 have hba:Below w.heap.size w (w.alloc (.cells #[.int .i64 f.dst,.int .u32 f.boot,.int .i64 f.p.kind,.int .u32 f.p.mine,.int .u32 f.p.boot,.int .u32 f.p.yours,.int .u32 f.p.seq,.int .u32 f.p.ack,.int .u32 f.p.stamp,.int .u32 f.p.echo,.complex .f64 f.p.zr f.p.zi,b] 150)):=(Below.refl _ _).alloc (Nat.le_refl _) _
 have H:=Lib.hid h
 have H1:=Lib.hid (h.sub hba)
 have HM:=Lib.hid hM
 have hc18:(w.alloc (.cells #[.int .i64 f.dst,.int .u32 f.boot,.int .i64 f.p.kind,.int .u32 f.p.mine,.int .u32 f.p.boot,.int .u32 f.p.yours,.int .u32 f.p.seq,.int .u32 f.p.ack,.int .u32 f.p.stamp,.int .u32 f.p.echo,.complex .f64 f.p.zr f.p.zi,b] 150)).cell? ⟨gp,18,none⟩ = some (.slice Aw X.way.length cw):=(blk_cell H1.out.blk 18).trans rfl
 have HCB:=Lib.hid (heap_alloc_new w (.cells #[.int .i64 f.dst,.int .u32 f.boot,.int .i64 f.p.kind,.int .u32 f.p.mine,.int .u32 f.p.boot,.int .u32 f.p.yours,.int .u32 f.p.seq,.int .u32 f.p.ack,.int .u32 f.p.stamp,.int .u32 f.p.echo,.complex .f64 f.p.zr f.p.zi,b] 150))
 have HBA:=Lib.hid hba
 clear h hM hba
 go_enter Try.func83,Try.ntmps83
 go_wp2_with fail
 rotate_left
 ·go_end0
  have hX:putX X f = X:=by unfold putX; rw [if_neg (by omega)]
  rw [hX]
  exact ⟨rfl,own,lv,_,H1.out,Grew.refl _ _,Kept.of_below HBA.out _,HBA.out.mono H.out.hB⟩
 have hX:putX X f = { X with way:=X.way ++ [f] }:=by unfold putX; rw [if_pos (by omega)]
 have HXX:=Lib.hid hX
 clear hX
 have hlt:X.way.length < 1024:=by omega
 have HLT:=Lib.hid hlt
 clear hlt
 have hbd:Below w.heap.size w (w.alloc (.cells #[.int .i64 f.dst,.int .u32 f.boot,.int .i64 f.p.kind,.int .u32 f.p.mine,.int .u32 f.p.boot,.int .u32 f.p.yours,.int .u32 f.p.seq,.int .u32 f.p.ack,.int .u32 f.p.stamp,.int .u32 f.p.echo,.complex .f64 f.p.zr f.p.zi,b] 150)).drew:=bl_drew HBA.out
 have hSS:(w.alloc (.cells #[.int .i64 f.dst,.int .u32 f.boot,.int .i64 f.p.kind,.int .u32 f.p.mine,.int .u32 f.p.boot,.int .u32 f.p.yours,.int .u32 f.p.seq,.int .u32 f.p.ack,.int .u32 f.p.stamp,.int .u32 f.p.echo,.complex .f64 f.p.zr f.p.zi,b] 150)).drew.heap[gp]? = some (.cells (prow X ge lv (.slice Aw X.way.length cw)) 143 (0,0)) ∧ (w.alloc (.cells #[.int .i64 f.dst,.int .u32 f.boot,.int .i64 f.p.kind,.int .u32 f.p.mine,.int .u32 f.p.boot,.int .u32 f.p.yours,.int .u32 f.p.seq,.int .u32 f.p.ack,.int .u32 f.p.stamp,.int .u32 f.p.echo,.complex .f64 f.p.zr f.p.zi,b] 150)).drew.heap[w.heap.size]? = some (.cells #[.int .i64 f.dst,.int .u32 f.boot,.int .i64 f.p.kind,.int .u32 f.p.mine,.int .u32 f.p.boot,.int .u32 f.p.yours,.int .u32 f.p.seq,.int .u32 f.p.ack,.int .u32 f.p.stamp,.int .u32 f.p.echo,.complex .f64 f.p.zr f.p.zi,b] 150 (0,0)):=⟨H1.out.blk,HCB.out⟩
 have hsz0:(w.alloc (.cells #[.int .i64 f.dst,.int .u32 f.boot,.int .i64 f.p.kind,.int .u32 f.p.mine,.int .u32 f.p.boot,.int .u32 f.p.yours,.int .u32 f.p.seq,.int .u32 f.p.ack,.int .u32 f.p.stamp,.int .u32 f.p.echo,.complex .f64 f.p.zr f.p.zi,b] 150)).drew.heap.size = w.heap.size + 1:=by simp [World.drew]
 clear H1 HBA HCB hc18
 refine start_ (n:=11) (S:=fun w' => w'.heap[gp]? = some (.cells (prow X ge lv (.slice Aw X.way.length cw)) 143 (0,0)) ∧ w'.heap[w.heap.size]? = some (.cells #[.int .i64 f.dst,.int .u32 f.boot,.int .i64 f.p.kind,.int .u32 f.p.mine,.int .u32 f.p.boot,.int .u32 f.p.yours,.int .u32 f.p.seq,.int .u32 f.p.ack,.int .u32 f.p.stamp,.int .u32 f.p.echo,.complex .f64 f.p.zr f.p.zi,b] 150 (0,0))) (ds:=[10]) M0W (by kernel_rfl) rfl rfl (hSS) (fun hHeld => ?_)
 generalize (w.alloc (.cells #[.int .i64 f.dst,.int .u32 f.boot,.int .i64 f.p.kind,.int .u32 f.p.mine,.int .u32 f.p.boot,.int .u32 f.p.yours,.int .u32 f.p.seq,.int .u32 f.p.ack,.int .u32 f.p.stamp,.int .u32 f.p.echo,.complex .f64 f.p.zr f.p.zi,b] 150)).drew = w2 at hbd hsz0 hHeld ⊢
 have HBD:=Lib.hid hbd
 have HSZ:=Lib.hid hsz0
 clear hbd hsz0
 refine pure_ (i:=0) (N:=some 10) (v:=?_) (a':=?_) M0Y rfl rfl (by kernel_rfl) (fun _ _ _ h => h) (Or.inl ⟨by rfl,?_⟩) ?_ ?_
 rotate_left
 ·intro w'
  go_simp
  with_reducible rfl
 rotate_left
 ·simp only [Act.put,sA,sZ,sS]
  rfl
 refine pure_ (i:=1) (N:=some 11) (v:=?_) (a':=?_) M0Z rfl rfl (by kernel_rfl) (fun _ _ _ h => h) (Or.inl ⟨by rfl,?_⟩) ?_ ?_
 rotate_left
 ·intro w'
  go_simp
  with_reducible rfl
 rotate_left
 ·simp only [Act.put,sA,sZ,sS]
  rfl
 refine pure_ (i:=2) (N:=some 12) (v:=?_) (a':=?_) M19 rfl rfl (by kernel_rfl) (fun _ _ _ h => h) (Or.inl ⟨by rfl,?_⟩) ?_ ?_
 rotate_left
 ·intro w'
  go_simp
  with_reducible rfl
 rotate_left
 ·simp only [Act.put,sA,sZ,sS]
  rfl
 refine pure_ (i:=3) (N:=some 13) (v:=?_) (a':=?_) M1a rfl rfl (by kernel_rfl) (fun _ _ _ h => h) (Or.inl ⟨by rfl,?_⟩) ?_ ?_
 rotate_left
 ·intro w'
  go_simp
  with_reducible rfl
 rotate_left
 ·simp only [Act.put,sA,sZ,sS]
  rfl
 refine take_ (i:=4) (N:=some 14) (v:=?_) (a':=?_) M1b rfl rfl (by kernel_rfl) (fun _ _ _ h => h) (Or.inl ⟨by rfl,?_⟩) hHeld ?_ ?_
 rotate_left
 ·intro w' s0
  have hc18:w'.cell? ⟨gp,18,none⟩ = some (.slice Aw X.way.length cw):=(blk_cell s0.1 18).trans rfl
  clear s0
  go_simp
  with_reducible rfl
 rotate_left
 ·simp only [Act.put,sA,sZ,sS]
  rfl
 refine take_ (i:=5) (N:=some 15) (v:=?_) (a':=?_) M1c rfl rfl (by kernel_rfl) (fun _ _ _ h => h) (Or.inl ⟨by rfl,?_⟩) hHeld ?_ ?_
 rotate_left
 ·intro w' s0
  have hu150:=Try.underlying150
  have hc0:w'.cell? ⟨w.heap.size,0,none⟩ = some (.int .i64 f.dst):=(blk_cell s0.2 0).trans rfl
  have hc1:w'.cell? ⟨w.heap.size,1,none⟩ = some (.int .u32 f.boot):=(blk_cell s0.2 1).trans rfl
  have hc2:w'.cell? ⟨w.heap.size,2,none⟩ = some (.int .i64 f.p.kind):=(blk_cell s0.2 2).trans rfl
  have hc3:w'.cell? ⟨w.heap.size,3,none⟩ = some (.int .u32 f.p.mine):=(blk_cell s0.2 3).trans rfl
  have hc4:w'.cell? ⟨w.heap.size,4,none⟩ = some (.int .u32 f.p.boot):=(blk_cell s0.2 4).trans rfl
  have hc5:w'.cell? ⟨w.heap.size,5,none⟩ = some (.int .u32 f.p.yours):=(blk_cell s0.2 5).trans rfl
  have hc6:w'.cell? ⟨w.heap.size,6,none⟩ = some (.int .u32 f.p.seq):=(blk_cell s0.2 6).trans rfl
  have hc7:w'.cell? ⟨w.heap.size,7,none⟩ = some (.int .u32 f.p.ack):=(blk_cell s0.2 7).trans rfl
  have hc8:w'.cell? ⟨w.heap.size,8,none⟩ = some (.int .u32 f.p.stamp):=(blk_cell s0.2 8).trans rfl
  have hc9:w'.cell? ⟨w.heap.size,9,none⟩ = some (.int .u32 f.p.echo):=(blk_cell s0.2 9).trans rfl
  have hc10:w'.cell? ⟨w.heap.size,10,none⟩ = some (.complex .f64 f.p.zr f.p.zi):=(blk_cell s0.2 10).trans rfl
  have hc11:w'.cell? ⟨w.heap.size,11,none⟩ = some (b):=(blk_cell s0.2 11).trans rfl
  clear s0
  go_simp
  try rfl
 rotate_left
 ·simp only [Act.put,sA,sZ,sS]
  rfl
 refine one_ (i:=6) (N:=some 16) M1d rfl rfl (by kernel_rfl) (by decide) (fun K hK => ?_)
 refine value_ (v:=.slice (some ⟨w2.heap.size,0,none⟩) 1 1) (by rfl) rfl (w1:=w2.alloc (.cells #[.int .i64 f.dst,.int .u32 f.boot,.int .i64 f.p.kind,.int .u32 f.p.mine,.int .u32 f.p.boot,.int .u32 f.p.yours,.int .u32 f.p.seq,.int .u32 f.p.ack,.int .u32 f.p.stamp,.int .u32 f.p.echo,.complex .f64 f.p.zr f.p.zi,b] 150)) ?_ ?_
 ·first | (go_simp; done) | (go_simp; rfl)
 have hb2:=(Below.refl w2.heap.size w2).alloc (Nat.le_refl _) (.cells #[.int .i64 f.dst,.int .u32 f.boot,.int .i64 f.p.kind,.int .u32 f.p.mine,.int .u32 f.p.boot,.int .u32 f.p.yours,.int .u32 f.p.seq,.int .u32 f.p.ack,.int .u32 f.p.stamp,.int .u32 f.p.echo,.complex .f64 f.p.zr f.p.zi,b] 150)
 have HS2:=Lib.hid hHeld
 refine hK.out _ _ ⟨(hb2.block gp (blk_lt hHeld.1)).trans hHeld.1,(hb2.block w.heap.size (blk_lt hHeld.2)).trans hHeld.2⟩ (fun hHeld => ?_)
 clear hK K
 refine norm_ (a':=?_) ?_ ?_
 rotate_left
 ·show Act.put _ (some 16) _ = _
  simp only [Act.put,sA,sZ,sS]
  rfl
 refine one_ (i:=7) (N:=some 17) M13 rfl rfl (by kernel_rfl) (by decide) (fun K hK => ?_)
 have hQ2:=H.out.sub HBD.out
 have hM2:=Kd.M_kept HM.out (Kept.of_below HBD.out (fun _ => False)) (fun _ _ hf => hf)
 obtain ⟨v1,w3,hrun,hW,hKp,hBl⟩:=put_run hQ2 f b hM2 HLT.out
 obtain ⟨A1,c1,_,hv1,_⟩:=hW.reads
 generalize (X.way ++ [f]).length = n1 at hv1
 subst hv1
 have hX3:w3.heap[gp]? = some (.cells (prow X ge lv (.slice Aw X.way.length cw)) 143 (0,0)):=blk_kept HS2.out.1 hKp (fun hx => H.out.gp0 _ hx.1)
 have hY3:w3.heap[w.heap.size]? = some (.cells #[.int .i64 f.dst,.int .u32 f.boot,.int .i64 f.p.kind,.int .u32 f.p.mine,.int .u32 f.p.boot,.int .u32 f.p.yours,.int .u32 f.p.seq,.int .u32 f.p.ack,.int .u32 f.p.stamp,.int .u32 f.p.echo,.complex .f64 f.p.zr f.p.zi,b] 150 (0,0)):=blk_kept HS2.out.2 hKp (fun hx => by have:=H.out.lt 5 _ hx.1; omega)
 refine append_step (P:=Try.prog) (w1:=w3) (v:=.slice Aw X.way.length cw) ?hw (.tmp 14) (.tmp 16) 141 ?ho (.slice (some ⟨w2.heap.size,0,none⟩) 1 1) (.slice A1 n1 c1) ?hs ?hx ?hr ?hk
 case hw => rfl
 case ho => rfl
 case hs => rfl
 case hx => rfl
 case hr => exact hrun
 have HX3:=Lib.hid hX3
 have HW3:=Lib.hid hW
 have HK3:=Lib.hid hKp
 have HBl3:=Lib.hid hBl
 have HQ2:=Lib.hid hQ2
 clear hrun hW hKp hBl hQ2 hM2 HM hHeld HS2
 refine hK.out _ _ ⟨hX3,hY3⟩ (fun hHeld => ?_)
 clear hK K hX3 hY3
 refine norm_ (a':=?_) ?_ ?_
 rotate_left
 ·show Act.put _ (some 17) _ = _
  simp only [Act.put,sA,sZ,sS]
  rfl
 refine pure_ (i:=8) (N:=some 18) (v:=?_) (a':=?_) M14 rfl rfl (by kernel_rfl) (fun _ _ _ h => h) (Or.inl ⟨by rfl,?_⟩) ?_ ?_
 rotate_left
 ·intro w'
  go_simp
  with_reducible rfl
 rotate_left
 ·simp only [Act.put,sA,sZ,sS]
  rfl
 refine pure_ (i:=9) (N:=some 19) (v:=?_) (a':=?_) M15 rfl rfl (by kernel_rfl) (fun _ _ _ h => h) (Or.inl ⟨by rfl,?_⟩) ?_ ?_
 rotate_left
 ·intro w'
  go_simp
  with_reducible rfl
 rotate_left
 ·simp only [Act.put,sA,sZ,sS]
  rfl
 refine last_ (i:=10) (N:=none) M16 rfl rfl (by kernel_rfl) (by decide) (fun K hK => ?_)
 have hz1:w3.cell? ⟨gp,18,none⟩ = some (.slice Aw X.way.length cw):=(blk_cell HX3.out 18).trans rfl
 have hz2:=blk_frozen HX3.out 18
 refine skip_F (fun wz => Moves w B gp ge own { X with way:=X.way ++ [f] } (fun k => k = gp ∨ own 5 k ∧ ∃ cells,w.heap[k]? = some (.cells cells 150 (0,0))) wz ∧ wz.heap[w.heap.size]? = some (.cells #[.int .i64 f.dst,.int .u32 f.boot,.int .i64 f.p.kind,.int .u32 f.p.mine,.int .u32 f.p.boot,.int .u32 f.p.yours,.int .u32 f.p.seq,.int .u32 f.p.ack,.int .u32 f.p.stamp,.int .u32 f.p.echo,.complex .f64 f.p.zr f.p.zi,b] 150 (0,0))) (by rfl) rfl ⟨_,by first | (go_simp; done) | (go_simp; rfl),put_moves H.out HBD.out HW3.out HK3.out HBl3.out,(Below.heap_setCell w3 ⟨gp,18,none⟩ _ w.heap.size (by have:=blk_lt H.out.blk; show w.heap.size ≠ gp; omega)).trans hHeld.2⟩ (fun w4 hF => ?_)
 have HF:=Lib.hid hF
 clear hF hz1 hz2 hHeld
 refine hK.out _ _ ?_
 clear hK K
 refine done_ (by kernel_rfl) ?_
 go_wp2
 go_end0
 rw [HXX.out]
 exact ⟨rfl,HF.out.1⟩
theorem flight_of {w:World} {B gp:Nat} {ge:Nat → Nat} {own:Nat → Nat → Prop} {X:Pr} {lv:Nat → Value} {wv:Value} (h:PAt w B gp ge own X lv wv):Calls Try.prog 43 #[.pointer (some ⟨gp,0,none⟩)] w fun e w' => e = .returned (.int .i64 X.way.length) ∧ w = w':=by
 obtain ⟨A,c,_,hv,_⟩:=h.way.reads
 subst hv
 have hc:w.cell? ⟨gp,18,none⟩ = some (.slice A X.way.length c):=(blk_cell h.blk 18).trans rfl
 clear h
 go_enter Try.func43,Try.ntmps43
 go_wp2
 all_goals (go_ret; exact ⟨rfl,rfl⟩)
theorem has_of (w:World) (gp s:Nat) (hs:s < 2):Calls Try.prog 81 #[.pointer (some ⟨gp,0,none⟩),.int .i64 s] w fun e w' => e = .returned (.bool true) ∧ w = w':=by
 have h0:s = 0 ∨ s = 1:=by omega
 rcases h0 with rfl | rfl
 all_goals
  go_enter Try.func81,Try.ntmps81
  go_wp2
  all_goals (go_ret; exact ⟨rfl,rfl⟩)
theorem phase_p {w:World} {B gp:Nat} {ge:Nat → Nat} {own:Nat → Nat → Prop} {X:Pr} {lv:Nat → Value} {wv:Value} (h:PAt w B gp ge own X lv wv) (s:Nat) (hs:s < 2):Calls Try.prog 40 #[.pointer (some ⟨gp,0,none⟩),.int .i64 s] w fun e w' => e = .returned (.int .i64 (X.sd s).end_.phase) ∧ w = w':=by
 have h0:s = 0 ∨ s = 1:=by omega
 have hc0:w.cell? ⟨gp,0,none⟩ = some (.pointer (some ⟨ge 0,0,none⟩)):=(blk_cell h.blk 0).trans rfl
 have hc9:w.cell? ⟨gp,9,none⟩ = some (.pointer (some ⟨ge 1,0,none⟩)):=(blk_cell h.blk 9).trans rfl
 have H:=Lib.hid h
 clear h hs
 rcases h0 with rfl | rfl
 ·go_enter Try.func40,Try.ntmps40
  go_wp2_with (first | (go_at_call 81; (have hc:=has_of w gp 0 (by decide)); rw [show ((0:Nat):Int) = 0 from rfl] at hc; (with_reducible refine hc.mono ?_); clear hc; rintro e w9 ⟨rfl,rfl⟩) | (go_at_call 29; (have hc:=phase_end (H.out.e 0 (by decide))); (with_reducible refine hc.mono ?_); clear hc; rintro e w9 ⟨rfl,rfl⟩))
  all_goals (go_ret; exact ⟨rfl,rfl⟩)
 ·go_enter Try.func40,Try.ntmps40
  go_wp2_with (first | (go_at_call 81; (have hc:=has_of w gp 1 (by decide)); rw [show ((1:Nat):Int) = 1 from rfl] at hc; (with_reducible refine hc.mono ?_); clear hc; rintro e w9 ⟨rfl,rfl⟩) | (go_at_call 29; (have hc:=phase_end (H.out.e 1 (by decide))); (with_reducible refine hc.mono ?_); clear hc; rintro e w9 ⟨rfl,rfl⟩))
  all_goals (go_ret; exact ⟨rfl,rfl⟩)
end Go.Proofs.Ytnkkgofpifhoeaa.Pr
end
section
namespace Go.Proofs.Ytnkkgofpifhoeaa.Pr
open Go.RowKit Go.Proofs.Ytnkkgofpifhoeaa.Base Go.Proofs.Ytnkkgofpifhoeaa.Steps Go.Proofs.Ytnkkgofpifhoeaa.Lk Go.Proofs.Ytnkkgofpifhoeaa.Win Go.Proofs.YtnkkgofpifhoeaaW.PrintWords Go.Proofs.YtnkkgofpifhoeaaW.PrintLast
theorem info67:(Try.prog.info? 67).map (fun i => (i.zero,i.size,i.bytes)) = some (some (.agg #[.int .i64 0,.int .u32 0,.int .u32 0,.int .u32 0,.int .u32 0,.slice none 0 0]),6,48):=by kernel_rfl
def entF (d:Sd) (kind:Int) (body:List Int):Ent:=⟨kind,d.last.boot,d.last.mine,d.last.peer,d.last.yours,body⟩
def noteF (d:Sd) (kind:Int) (body:List Int):Sd:={ d with log:=d.log ++ [entF d kind body] }
theorem ent_free {w:World} {B:Nat} {okp ok:Nat → Prop} {x:Ent} {cs:List Value} {o:Value} {xs:List Ent} (hM:ent.M w B okp x cs) (ho:ent.R 67 w B ok o xs):ent.M w B (fun k => okp k ∧ some k ≠ o.ownBlock) x cs:=by
 refine ent.M_mono (fun k hk => ?_) (ent.M_bound hM)
 obtain ⟨h1,_,_,t,ht,c,hc⟩:=hk
 refine ⟨h1,fun he => ?_⟩
 obtain ⟨_,inner,ho2,_⟩:=ho
 obtain ⟨c2,hc2⟩:=own_typed ho2 k he.symm
 rw [hc] at hc2
 injection hc2 with hc2
 injection hc2 with _ hc2 _
 subst hc2
 rw [ent_E] at ht
 exact absurd ht (by decide)
set_option maxRecDepth 100000 in
set_option maxHeartbeats 2000000 in
theorem note_0 {w:World} {B gp:Nat} {ge:Nat → Nat} {own:Nat → Nat → Prop} {X:Pr} {lv:Nat → Value} {wv:Value} (h:PAt w B gp ge own X lv wv) (kind:Int) (body:List Int) (Ab:Option Addr) (cb:Nat) (hC:(Kd.int .u8).C w Ab body.length body) (hbl:body.length ≤ 1000000) (hll:(X.sd 0).log.length ≤ 1000000) :
  Calls Try.prog 127 #[.pointer (some ⟨gp,0,none⟩),.int .i64 kind,.slice Ab body.length cb] w fun e w' => e = .returned (.tuple #[]) ∧ Moves w B gp ge own (X.set 0 (noteF (X.sd 0) kind body)) (fun k => k = gp ∨ own 3 k) w':=by
 obtain ⟨Al,cl,hlv⟩:=Kd.R_slice (h.l 0 (by decide))
 have H:=Lib.hid h
 have HC:=Lib.hid hC
 have HBL:=Lib.hid hbl
 have HLL:=Lib.hid hll
 have HLV:=Lib.hid hlv
 have HRG:=Lib.hid (show w.rangeAt gp 3 [.int .i64 (X.sd 0).last.kind,.int .u32 (X.sd 0).last.boot,.int .u32 (X.sd 0).last.mine,.int .u32 (X.sd 0).last.peer,.int .u32 (X.sd 0).last.yours,.slice none 0 0] from fun j u hu => by
  have hb:w.cell? ⟨gp,3 + j,none⟩ = (prow X ge lv wv)[3 + j]?:=blk_cell h.blk _
  rw [hb]
  match j,hu with
  | 0,hu => exact hu
  | 1,hu => exact hu
  | 2,hu => exact hu
  | 3,hu => exact hu
  | 4,hu => exact hu
  | 5,hu => exact hu
  | n + 6,hu => exact absurd hu (by simp))
 clear h hC hbl hll hlv
 generalize hnb:body.length = nb at *
 have HNB:=Lib.hid hnb
 clear hnb
 go_enter Try.func127,Try.ntmps127
 go_wp2_with (first | ((with_reducible refine gate_dst (N:=10) rfl ?_); (refine wpList_load_mid rfl 67 (.tmp 9) rfl gp 3 (by first | rfl | (simp; done)) [.int .i64 (X.sd 0).last.kind,.int .u32 (X.sd 0).last.boot,.int .u32 (X.sd 0).last.mine,.int .u32 (X.sd 0).last.peer,.int .u32 (X.sd 0).last.yours,.slice none 0 0] _ HRG.out Try.underlying67 rfl (by kernel_rfl) ?_)) | ((with_reducible refine gate_ (.store 67 (.tmp 6) (.tmp 10)) rfl ?_); (refine store_row_F rfl rfl 67 (.tmp 6) (.tmp 10) rfl w.heap.size #[.int .i64 (X.sd 0).last.kind,.int .u32 (X.sd 0).last.boot,.int .u32 (X.sd 0).last.mine,.int .u32 (X.sd 0).last.peer,.int .u32 (X.sd 0).last.yours,.slice none 0 0] rfl rfl 67 _ (heap_alloc_new w _) (by kernel_rfl) rfl (by kernel_rfl) ?_); (intro w1 hb1 hat1); (have HB1:=Lib.hid hb1); (have HL1:=Lib.hid (hat1.below ((Below.refl w.heap.size w).alloc (Nat.le_refl _) _) (Nat.le_refl _))); (clear hb1 hat1)) | ((with_reducible refine gate_ (.store 3 (.tmp 12) (.tmp 11)) rfl ?_); (refine store_F (fun wz => wz.heap[w.heap.size]? = some (.cells #[.int .i64 kind,.int .u32 (X.sd 0).last.boot,.int .u32 (X.sd 0).last.mine,.int .u32 (X.sd 0).last.peer,.int .u32 (X.sd 0).last.yours,.slice none 0 0] 67 (0,0)) ∧ Below w.heap.size w wz) rfl rfl ⟨_,(by have hz1:World.cell? w1 ⟨w.heap.size,0,none⟩ = some _:=(blk_cell HB1.out 0).trans rfl; have hz2:=blk_frozen HB1.out 0; first | (go_simp; done) | (go_simp; rfl)),blk_put HB1.out 0 _ rfl,HL1.out.setCell (p:=⟨w.heap.size,0,none⟩) (Nat.le_refl _) _⟩ (fun w2 hF => ?_)); (have HF2:=Lib.hid hF); (clear hF)) | ((with_reducible refine gate_dst (N:=14) rfl ?_); (refine Kd.R_append_rows (Kd.int .u8) (Rr:=fun x cs => cs = [Value.int .u8 x]) (w0:=w) (W:=w2) B rfl (.const (.slice none 0 0)) (.tmp 13) 22 5 (.int .u8 0) 1 rfl Try.underlying22 info5' rfl (by decide) (by decide) (.slice none 0 0) [] body Ab nb cb (fun k => w2.heap.size ≤ k) (fun _ => False) rfl rfl (Kd.R_nil _ _ _ _ _) (Kd.C_below (by have:=HC.out; rwa [← HNB.out] at this ⊢) HF2.out.2) (fun _ _ hx => hx) (fun _ hf => hf.elim) (fun k hk => hk) (HF2.out.2.mono H.out.hB) (Nat.le_trans H.out.hB HF2.out.2.size) (by have:=HBL.out; have:=HNB.out; simp; omega) ?_); (intro v1 w3 hR hbl hg _); (obtain ⟨A1,c1,hv1⟩:=Kd.R_slice hR); (subst hv1); (have hbg:Below w2.heap.size w2 w3:=⟨hg.os,hg.tape,hg.output,hg.size,fun k hk => hg.block k hk (by simp [Value.ownBlock])⟩); (have HB3:=Lib.hid ((hbg.block _ (blk_lt HF2.out.1)).trans HF2.out.1)); (have HL3:=Lib.hid (HF2.out.2.trans (hbg.mono HF2.out.2.size))); (have HR3:=Lib.hid (show (Kd.int .u8).R 5 w3 B (fun k => w2.heap.size ≤ k) _ body from hR)); (clear hR hbl hg hbg)) | ((with_reducible refine gate_ (.store 22 (.tmp 15) (.tmp 14)) rfl ?_); (refine store_F (fun wz => wz.heap[w.heap.size]? = some (.cells #[.int .i64 kind,.int .u32 (X.sd 0).last.boot,.int .u32 (X.sd 0).last.mine,.int .u32 (X.sd 0).last.peer,.int .u32 (X.sd 0).last.yours,.slice A1 ([] ++ body).length c1] 67 (0,0)) ∧ Below w.heap.size w wz ∧ Kept w3 wz (fun k => k = w.heap.size)) rfl rfl ⟨_,(by have hz1:World.cell? w3 ⟨w.heap.size,5,none⟩ = some _:=(blk_cell HB3.out 5).trans rfl; have hz2:=blk_frozen HB3.out 5; first | (go_simp; done) | (go_simp; rfl)),blk_put HB3.out 5 _ rfl,HL3.out.setCell (p:=⟨w.heap.size,5,none⟩) (Nat.le_refl _) _,Kept.setCell (S:=fun k => k = w.heap.size) (Kept.refl w3 _) (p:=⟨w.heap.size,5,none⟩) (.inl rfl) _⟩ (fun w4 hF => ?_)); (have HF4:=Lib.hid hF); (clear hF)))
 have hgl:gp < w.heap.size:=blk_lt H.out.blk
 have hbd:=bl_drew HF4.out.2.1
 have hSS:w4.drew.heap[gp]? = some (.cells (prow X ge lv wv) 143 (0,0)) ∧ w4.drew.heap[w.heap.size]? = some (.cells #[.int .i64 kind,.int .u32 (X.sd 0).last.boot,.int .u32 (X.sd 0).last.mine,.int .u32 (X.sd 0).last.peer,.int .u32 (X.sd 0).last.yours,.slice A1 ([] ++ body).length c1] 67 (0,0)):=⟨(H.out.sub hbd).blk,HF4.out.1⟩
 have hRB:(Kd.int .u8).R 5 w4.drew B (fun k => w2.heap.size ≤ k ∧ k < w4.drew.heap.size) (.slice A1 ([] ++ body).length c1) body:=Kd.R_mono (Kd.R_bound (Kd.R_kept (Kd.R_kept HR3.out HF4.out.2.2 (fun k hk => by have:=HF2.out.2.size; have:=blk_lt HF2.out.1; omega)) (Kept.of_below (bl_drew (Below.refl w4.heap.size w4)) (fun _ => False)) (fun _ _ hf => hf))) (fun k hk => ⟨hk.1,hk.2.2.1⟩)
 have hsz2:=blk_lt HF2.out.1
 have HS2:=Lib.hid hsz2
 clear HRG HB1 HL1 HB3 HL3 HR3 hsz2
 refine start_ (n:=11) (S:=fun w' => w'.heap[gp]? = some (.cells (prow X ge lv wv) 143 (0,0)) ∧ w'.heap[w.heap.size]? = some (.cells #[.int .i64 kind,.int .u32 (X.sd 0).last.boot,.int .u32 (X.sd 0).last.mine,.int .u32 (X.sd 0).last.peer,.int .u32 (X.sd 0).last.yours,.slice A1 ([] ++ body).length c1] 67 (0,0))) (ds:=[10]) M0W (by kernel_rfl) rfl rfl (hSS) (fun hHeld => ?_)
 generalize w4.drew = w5 at hbd hRB hHeld ⊢
 have HBD:=Lib.hid hbd
 have HRB:=Lib.hid hRB
 clear hbd hRB
 refine pure_ (i:=0) (N:=some 16) (v:=?_) (a':=?_) M0Y rfl rfl (by kernel_rfl) (fun _ _ _ h => h) (Or.inl ⟨by rfl,?_⟩) ?_ ?_
 rotate_left
 ·intro w'
  go_simp
  with_reducible rfl
 rotate_left
 ·simp only [Act.put,sA,sZ,sS]
  rfl
 refine pure_ (i:=1) (N:=some 17) (v:=?_) (a':=?_) M0Z rfl rfl (by kernel_rfl) (fun _ _ _ h => h) (Or.inl ⟨by rfl,?_⟩) ?_ ?_
 rotate_left
 ·intro w'
  go_simp
  with_reducible rfl
 rotate_left
 ·simp only [Act.put,sA,sZ,sS]
  rfl
 refine pure_ (i:=2) (N:=some 18) (v:=?_) (a':=?_) M19 rfl rfl (by kernel_rfl) (fun _ _ _ h => h) (Or.inl ⟨by rfl,?_⟩) ?_ ?_
 rotate_left
 ·intro w'
  go_simp
  with_reducible rfl
 rotate_left
 ·simp only [Act.put,sA,sZ,sS]
  rfl
 refine pure_ (i:=3) (N:=some 19) (v:=?_) (a':=?_) M1a rfl rfl (by kernel_rfl) (fun _ _ _ h => h) (Or.inl ⟨by rfl,?_⟩) ?_ ?_
 rotate_left
 ·intro w'
  go_simp
  with_reducible rfl
 rotate_left
 ·simp only [Act.put,sA,sZ,sS]
  rfl
 refine take_ (i:=4) (N:=some 20) (v:=?_) (a':=?_) M1b rfl rfl (by kernel_rfl) (fun _ _ _ h => h) (Or.inl ⟨by rfl,?_⟩) hHeld ?_ ?_
 rotate_left
 ·intro w' s0
  have hcl:w'.cell? ⟨gp,2,none⟩ = some (.slice Al (X.sd 0).log.length cl):=(blk_cell s0.1 2).trans (by rw [← HLV.out]; rfl)
  clear s0
  go_simp
  with_reducible rfl
 rotate_left
 ·simp only [Act.put,sA,sZ,sS]
  rfl
 refine take_ (i:=5) (N:=some 21) (v:=?_) (a':=?_) M1c rfl rfl (by kernel_rfl) (fun _ _ _ h => h) (Or.inl ⟨by rfl,?_⟩) hHeld ?_ ?_
 rotate_left
 ·intro w' s0
  have hu67:=Try.underlying67
  have hc0:w'.cell? ⟨w.heap.size,0,none⟩ = some (.int .i64 kind):=(blk_cell s0.2 0).trans rfl
  have hc1:w'.cell? ⟨w.heap.size,1,none⟩ = some (.int .u32 (X.sd 0).last.boot):=(blk_cell s0.2 1).trans rfl
  have hc2:w'.cell? ⟨w.heap.size,2,none⟩ = some (.int .u32 (X.sd 0).last.mine):=(blk_cell s0.2 2).trans rfl
  have hc3:w'.cell? ⟨w.heap.size,3,none⟩ = some (.int .u32 (X.sd 0).last.peer):=(blk_cell s0.2 3).trans rfl
  have hc4:w'.cell? ⟨w.heap.size,4,none⟩ = some (.int .u32 (X.sd 0).last.yours):=(blk_cell s0.2 4).trans rfl
  have hc5:w'.cell? ⟨w.heap.size,5,none⟩ = some (.slice A1 ([] ++ body).length c1):=(blk_cell s0.2 5).trans rfl
  clear s0
  go_simp
  try rfl
 rotate_left
 ·simp only [Act.put,sA,sZ,sS]
  rfl
 refine one_ (i:=6) (N:=some 22) M1d rfl rfl (by kernel_rfl) (by decide) (fun K hK => ?_)
 refine value_ (v:=.slice (some ⟨w5.heap.size,0,none⟩) 1 1) (by rfl) rfl (w1:=w5.alloc (.cells #[.int .i64 kind,.int .u32 (X.sd 0).last.boot,.int .u32 (X.sd 0).last.mine,.int .u32 (X.sd 0).last.peer,.int .u32 (X.sd 0).last.yours,.slice A1 ([] ++ body).length c1] 67)) ?_ ?_
 ·first | (go_simp; done) | (go_simp; rfl)
 have hb2:=(Below.refl w5.heap.size w5).alloc (Nat.le_refl _) (.cells #[.int .i64 kind,.int .u32 (X.sd 0).last.boot,.int .u32 (X.sd 0).last.mine,.int .u32 (X.sd 0).last.peer,.int .u32 (X.sd 0).last.yours,.slice A1 ([] ++ body).length c1] 67)
 have HS5:=Lib.hid hHeld
 refine hK.out _ _ ⟨(hb2.block gp (blk_lt hHeld.1)).trans hHeld.1,(hb2.block w.heap.size (blk_lt hHeld.2)).trans hHeld.2⟩ (fun hHeld => ?_)
 clear hK K
 refine norm_ (a':=?_) ?_ ?_
 rotate_left
 ·show Act.put _ (some 22) _ = _
  simp only [Act.put,sA,sZ,sS]
  rfl
 refine one_ (i:=7) (N:=some 23) M13 rfl rfl (by kernel_rfl) (by decide) (fun K hK => ?_)
 have hQ5:=H.out.sub HBD.out
 have hM5:ent.M w5 B (fun k => w2.heap.size ≤ k ∧ k < w5.heap.size) (entF (X.sd 0) kind body) (ecells (entF (X.sd 0) kind body) (.slice A1 ([] ++ body).length c1)):=ent_M.2 ⟨_,rfl,HRB.out⟩
 refine Kd.R_append_step ent (w0:=w) (W:=w5) B ?hw (.tmp 20) (.tmp 22) 64 67 (.agg #[.int .i64 0,.int .u32 0,.int .u32 0,.int .u32 0,.int .u32 0,.slice none 0 0]) 48 ?ho Try.underlying64 info67 ?hz ?hs0 ?hb0 (lv 0) (X.sd 0).log (entF (X.sd 0) kind body) (ecells (entF (X.sd 0) kind body) (.slice A1 ([] ++ body).length c1)) (fun k => own 3 k ∨ w.heap.size ≤ k) (fun k => (w2.heap.size ≤ k ∧ k < w5.heap.size) ∧ some k ≠ (lv 0).ownBlock) ?hs ?hx (ent_free hM5 (hQ5.l 0 (by decide))) ?hokp ?hf (Kd.R_mono (hQ5.l 0 (by decide)) (fun _ hk => .inl hk)) (HBD.out.mono H.out.hB) hQ5.hB ?hl ?hk
 case hw => rfl
 case ho => rfl
 case hz => rfl
 case hs0 => decide
 case hb0 => decide
 case hs => rw [HLV.out]; rfl
 case hx => rfl
 case hokp => exact fun k hk => ⟨.inr (by have:=HS2.out; have:=HF2.out.2.size; omega),hk.2⟩
 case hf => exact fun k hk => .inr (by have:=HBD.out.size; omega)
 case hl => have:=HLL.out; omega
 intro o1 w6 hR hbl hg _
 obtain ⟨A6,c6,ho1⟩:=Kd.R_slice hR
 generalize ((X.sd 0).log ++ [entF (X.sd 0) kind body]).length = n6 at ho1
 subst ho1
 have hK6:Kept w w6 (own 3):=Kept.of_grown hg (Kept.of_below HBD.out _) (fun k hk => .inl ((H.out.l 0 (by decide)).1 k hk))
 have hX6:w6.heap[gp]? = some (.cells (prow X ge lv wv) 143 (0,0)):=blk_kept H.out.blk hK6 (H.out.gp0 _)
 have hY6:w6.heap[w.heap.size]? = some (.cells #[.int .i64 kind,.int .u32 (X.sd 0).last.boot,.int .u32 (X.sd 0).last.mine,.int .u32 (X.sd 0).last.peer,.int .u32 (X.sd 0).last.yours,.slice A1 ([] ++ body).length c1] 67 (0,0)):=(hg.block w.heap.size (blk_lt HS5.out.2) (fun he => by have:=H.out.lt _ _ ((H.out.l 0 (by decide)).1 _ he.symm); omega)).trans HS5.out.2
 have HX6:=Lib.hid hX6
 have HR6:=Lib.hid hR
 have HK6:=Lib.hid hK6
 have HBl6:=Lib.hid hbl
 clear hR hbl hg hK6 hQ5 hM5 hHeld HS5
 refine hK.out _ _ ⟨hX6,hY6⟩ (fun hHeld => ?_)
 clear hK K hX6 hY6
 refine norm_ (a':=?_) ?_ ?_
 rotate_left
 ·show Act.put _ (some 23) _ = _
  simp only [Act.put,sA,sZ,sS]
  rfl
 refine pure_ (i:=8) (N:=some 24) (v:=?_) (a':=?_) M14 rfl rfl (by kernel_rfl) (fun _ _ _ h => h) (Or.inl ⟨by rfl,?_⟩) ?_ ?_
 rotate_left
 ·intro w'
  go_simp
  with_reducible rfl
 rotate_left
 ·simp only [Act.put,sA,sZ,sS]
  rfl
 refine pure_ (i:=9) (N:=some 25) (v:=?_) (a':=?_) M15 rfl rfl (by kernel_rfl) (fun _ _ _ h => h) (Or.inl ⟨by rfl,?_⟩) ?_ ?_
 rotate_left
 ·intro w'
  go_simp
  with_reducible rfl
 rotate_left
 ·simp only [Act.put,sA,sZ,sS]
  rfl
 refine last_ (i:=10) (N:=none) M16 rfl rfl (by kernel_rfl) (by decide) (fun K hK => ?_)
 have hz1:w6.cell? ⟨gp,2,none⟩ = some _:=(blk_cell HX6.out 2).trans rfl
 have hz2:=blk_frozen HX6.out 2
 refine skip_F (fun wz => Moves w B gp ge own (X.set 0 (noteF (X.sd 0) kind body)) (fun k => k = gp ∨ own 3 k) wz) (by rfl) rfl ⟨_,by first | (go_simp; done) | (go_simp; rfl),⟨_,_,wv,H.out.newlog (s:=0) (by decide) HK6.out HR6.out,Grew.grow _ (Nat.le_refl _),Kept.setCell (p:=⟨gp,2,none⟩) (HK6.out.mono (fun k hk => .inr hk)) (.inl (.inl rfl)) _,HBl6.out.setCell (p:=⟨gp,2,none⟩) H.out.low _⟩⟩ (fun w7 hF => ?_)
 have HF:=Lib.hid hF
 clear hF hz1 hz2 hHeld
 refine hK.out _ _ ?_
 clear hK K
 refine done_ (by kernel_rfl) ?_
 go_wp2
 go_end0
 exact ⟨rfl,HF.out⟩
set_option maxRecDepth 100000 in
set_option maxHeartbeats 2000000 in
theorem note_1 {w:World} {B gp:Nat} {ge:Nat → Nat} {own:Nat → Nat → Prop} {X:Pr} {lv:Nat → Value} {wv:Value} (h:PAt w B gp ge own X lv wv) (kind:Int) (body:List Int) (Ab:Option Addr) (cb:Nat) (hC:(Kd.int .u8).C w Ab body.length body) (hbl:body.length ≤ 1000000) (hll:(X.sd 1).log.length ≤ 1000000) :
  Calls Try.prog 127 #[.pointer (some ⟨gp,9,none⟩),.int .i64 kind,.slice Ab body.length cb] w fun e w' => e = .returned (.tuple #[]) ∧ Moves w B gp ge own (X.set 1 (noteF (X.sd 1) kind body)) (fun k => k = gp ∨ own 4 k) w':=by
 obtain ⟨Al,cl,hlv⟩:=Kd.R_slice (h.l 1 (by decide))
 have H:=Lib.hid h
 have HC:=Lib.hid hC
 have HBL:=Lib.hid hbl
 have HLL:=Lib.hid hll
 have HLV:=Lib.hid hlv
 have HRG:=Lib.hid (show w.rangeAt gp 12 [.int .i64 (X.sd 1).last.kind,.int .u32 (X.sd 1).last.boot,.int .u32 (X.sd 1).last.mine,.int .u32 (X.sd 1).last.peer,.int .u32 (X.sd 1).last.yours,.slice none 0 0] from fun j u hu => by
  have hb:w.cell? ⟨gp,12 + j,none⟩ = (prow X ge lv wv)[12 + j]?:=blk_cell h.blk _
  rw [hb]
  match j,hu with
  | 0,hu => exact hu
  | 1,hu => exact hu
  | 2,hu => exact hu
  | 3,hu => exact hu
  | 4,hu => exact hu
  | 5,hu => exact hu
  | n + 6,hu => exact absurd hu (by simp))
 clear h hC hbl hll hlv
 generalize hnb:body.length = nb at *
 have HNB:=Lib.hid hnb
 clear hnb
 go_enter Try.func127,Try.ntmps127
 go_wp2_with (first | ((with_reducible refine gate_dst (N:=10) rfl ?_); (refine wpList_load_mid rfl 67 (.tmp 9) rfl gp 12 (by first | rfl | (simp; done)) [.int .i64 (X.sd 1).last.kind,.int .u32 (X.sd 1).last.boot,.int .u32 (X.sd 1).last.mine,.int .u32 (X.sd 1).last.peer,.int .u32 (X.sd 1).last.yours,.slice none 0 0] _ HRG.out Try.underlying67 rfl (by kernel_rfl) ?_)) | ((with_reducible refine gate_ (.store 67 (.tmp 6) (.tmp 10)) rfl ?_); (refine store_row_F rfl rfl 67 (.tmp 6) (.tmp 10) rfl w.heap.size #[.int .i64 (X.sd 1).last.kind,.int .u32 (X.sd 1).last.boot,.int .u32 (X.sd 1).last.mine,.int .u32 (X.sd 1).last.peer,.int .u32 (X.sd 1).last.yours,.slice none 0 0] rfl rfl 67 _ (heap_alloc_new w _) (by kernel_rfl) rfl (by kernel_rfl) ?_); (intro w1 hb1 hat1); (have HB1:=Lib.hid hb1); (have HL1:=Lib.hid (hat1.below ((Below.refl w.heap.size w).alloc (Nat.le_refl _) _) (Nat.le_refl _))); (clear hb1 hat1)) | ((with_reducible refine gate_ (.store 3 (.tmp 12) (.tmp 11)) rfl ?_); (refine store_F (fun wz => wz.heap[w.heap.size]? = some (.cells #[.int .i64 kind,.int .u32 (X.sd 1).last.boot,.int .u32 (X.sd 1).last.mine,.int .u32 (X.sd 1).last.peer,.int .u32 (X.sd 1).last.yours,.slice none 0 0] 67 (0,0)) ∧ Below w.heap.size w wz) rfl rfl ⟨_,(by have hz1:World.cell? w1 ⟨w.heap.size,0,none⟩ = some _:=(blk_cell HB1.out 0).trans rfl; have hz2:=blk_frozen HB1.out 0; first | (go_simp; done) | (go_simp; rfl)),blk_put HB1.out 0 _ rfl,HL1.out.setCell (p:=⟨w.heap.size,0,none⟩) (Nat.le_refl _) _⟩ (fun w2 hF => ?_)); (have HF2:=Lib.hid hF); (clear hF)) | ((with_reducible refine gate_dst (N:=14) rfl ?_); (refine Kd.R_append_rows (Kd.int .u8) (Rr:=fun x cs => cs = [Value.int .u8 x]) (w0:=w) (W:=w2) B rfl (.const (.slice none 0 0)) (.tmp 13) 22 5 (.int .u8 0) 1 rfl Try.underlying22 info5' rfl (by decide) (by decide) (.slice none 0 0) [] body Ab nb cb (fun k => w2.heap.size ≤ k) (fun _ => False) rfl rfl (Kd.R_nil _ _ _ _ _) (Kd.C_below (by have:=HC.out; rwa [← HNB.out] at this ⊢) HF2.out.2) (fun _ _ hx => hx) (fun _ hf => hf.elim) (fun k hk => hk) (HF2.out.2.mono H.out.hB) (Nat.le_trans H.out.hB HF2.out.2.size) (by have:=HBL.out; have:=HNB.out; simp; omega) ?_); (intro v1 w3 hR hbl hg _); (obtain ⟨A1,c1,hv1⟩:=Kd.R_slice hR); (subst hv1); (have hbg:Below w2.heap.size w2 w3:=⟨hg.os,hg.tape,hg.output,hg.size,fun k hk => hg.block k hk (by simp [Value.ownBlock])⟩); (have HB3:=Lib.hid ((hbg.block _ (blk_lt HF2.out.1)).trans HF2.out.1)); (have HL3:=Lib.hid (HF2.out.2.trans (hbg.mono HF2.out.2.size))); (have HR3:=Lib.hid (show (Kd.int .u8).R 5 w3 B (fun k => w2.heap.size ≤ k) _ body from hR)); (clear hR hbl hg hbg)) | ((with_reducible refine gate_ (.store 22 (.tmp 15) (.tmp 14)) rfl ?_); (refine store_F (fun wz => wz.heap[w.heap.size]? = some (.cells #[.int .i64 kind,.int .u32 (X.sd 1).last.boot,.int .u32 (X.sd 1).last.mine,.int .u32 (X.sd 1).last.peer,.int .u32 (X.sd 1).last.yours,.slice A1 ([] ++ body).length c1] 67 (0,0)) ∧ Below w.heap.size w wz ∧ Kept w3 wz (fun k => k = w.heap.size)) rfl rfl ⟨_,(by have hz1:World.cell? w3 ⟨w.heap.size,5,none⟩ = some _:=(blk_cell HB3.out 5).trans rfl; have hz2:=blk_frozen HB3.out 5; first | (go_simp; done) | (go_simp; rfl)),blk_put HB3.out 5 _ rfl,HL3.out.setCell (p:=⟨w.heap.size,5,none⟩) (Nat.le_refl _) _,Kept.setCell (S:=fun k => k = w.heap.size) (Kept.refl w3 _) (p:=⟨w.heap.size,5,none⟩) (.inl rfl) _⟩ (fun w4 hF => ?_)); (have HF4:=Lib.hid hF); (clear hF)))
 have hgl:gp < w.heap.size:=blk_lt H.out.blk
 have hbd:=bl_drew HF4.out.2.1
 have hSS:w4.drew.heap[gp]? = some (.cells (prow X ge lv wv) 143 (0,0)) ∧ w4.drew.heap[w.heap.size]? = some (.cells #[.int .i64 kind,.int .u32 (X.sd 1).last.boot,.int .u32 (X.sd 1).last.mine,.int .u32 (X.sd 1).last.peer,.int .u32 (X.sd 1).last.yours,.slice A1 ([] ++ body).length c1] 67 (0,0)):=⟨(H.out.sub hbd).blk,HF4.out.1⟩
 have hRB:(Kd.int .u8).R 5 w4.drew B (fun k => w2.heap.size ≤ k ∧ k < w4.drew.heap.size) (.slice A1 ([] ++ body).length c1) body:=Kd.R_mono (Kd.R_bound (Kd.R_kept (Kd.R_kept HR3.out HF4.out.2.2 (fun k hk => by have:=HF2.out.2.size; have:=blk_lt HF2.out.1; omega)) (Kept.of_below (bl_drew (Below.refl w4.heap.size w4)) (fun _ => False)) (fun _ _ hf => hf))) (fun k hk => ⟨hk.1,hk.2.2.1⟩)
 have hsz2:=blk_lt HF2.out.1
 have HS2:=Lib.hid hsz2
 clear HRG HB1 HL1 HB3 HL3 HR3 hsz2
 refine start_ (n:=11) (S:=fun w' => w'.heap[gp]? = some (.cells (prow X ge lv wv) 143 (0,0)) ∧ w'.heap[w.heap.size]? = some (.cells #[.int .i64 kind,.int .u32 (X.sd 1).last.boot,.int .u32 (X.sd 1).last.mine,.int .u32 (X.sd 1).last.peer,.int .u32 (X.sd 1).last.yours,.slice A1 ([] ++ body).length c1] 67 (0,0))) (ds:=[10]) M0W (by kernel_rfl) rfl rfl (hSS) (fun hHeld => ?_)
 generalize w4.drew = w5 at hbd hRB hHeld ⊢
 have HBD:=Lib.hid hbd
 have HRB:=Lib.hid hRB
 clear hbd hRB
 refine pure_ (i:=0) (N:=some 16) (v:=?_) (a':=?_) M0Y rfl rfl (by kernel_rfl) (fun _ _ _ h => h) (Or.inl ⟨by rfl,?_⟩) ?_ ?_
 rotate_left
 ·intro w'
  go_simp
  with_reducible rfl
 rotate_left
 ·simp only [Act.put,sA,sZ,sS]
  rfl
 refine pure_ (i:=1) (N:=some 17) (v:=?_) (a':=?_) M0Z rfl rfl (by kernel_rfl) (fun _ _ _ h => h) (Or.inl ⟨by rfl,?_⟩) ?_ ?_
 rotate_left
 ·intro w'
  go_simp
  with_reducible rfl
 rotate_left
 ·simp only [Act.put,sA,sZ,sS]
  rfl
 refine pure_ (i:=2) (N:=some 18) (v:=?_) (a':=?_) M19 rfl rfl (by kernel_rfl) (fun _ _ _ h => h) (Or.inl ⟨by rfl,?_⟩) ?_ ?_
 rotate_left
 ·intro w'
  go_simp
  with_reducible rfl
 rotate_left
 ·simp only [Act.put,sA,sZ,sS]
  rfl
 refine pure_ (i:=3) (N:=some 19) (v:=?_) (a':=?_) M1a rfl rfl (by kernel_rfl) (fun _ _ _ h => h) (Or.inl ⟨by rfl,?_⟩) ?_ ?_
 rotate_left
 ·intro w'
  go_simp
  with_reducible rfl
 rotate_left
 ·simp only [Act.put,sA,sZ,sS]
  rfl
 refine take_ (i:=4) (N:=some 20) (v:=?_) (a':=?_) M1b rfl rfl (by kernel_rfl) (fun _ _ _ h => h) (Or.inl ⟨by rfl,?_⟩) hHeld ?_ ?_
 rotate_left
 ·intro w' s0
  have hcl:w'.cell? ⟨gp,11,none⟩ = some (.slice Al (X.sd 1).log.length cl):=(blk_cell s0.1 11).trans (by rw [← HLV.out]; rfl)
  clear s0
  go_simp
  with_reducible rfl
 rotate_left
 ·simp only [Act.put,sA,sZ,sS]
  rfl
 refine take_ (i:=5) (N:=some 21) (v:=?_) (a':=?_) M1c rfl rfl (by kernel_rfl) (fun _ _ _ h => h) (Or.inl ⟨by rfl,?_⟩) hHeld ?_ ?_
 rotate_left
 ·intro w' s0
  have hu67:=Try.underlying67
  have hc0:w'.cell? ⟨w.heap.size,0,none⟩ = some (.int .i64 kind):=(blk_cell s0.2 0).trans rfl
  have hc1:w'.cell? ⟨w.heap.size,1,none⟩ = some (.int .u32 (X.sd 1).last.boot):=(blk_cell s0.2 1).trans rfl
  have hc2:w'.cell? ⟨w.heap.size,2,none⟩ = some (.int .u32 (X.sd 1).last.mine):=(blk_cell s0.2 2).trans rfl
  have hc3:w'.cell? ⟨w.heap.size,3,none⟩ = some (.int .u32 (X.sd 1).last.peer):=(blk_cell s0.2 3).trans rfl
  have hc4:w'.cell? ⟨w.heap.size,4,none⟩ = some (.int .u32 (X.sd 1).last.yours):=(blk_cell s0.2 4).trans rfl
  have hc5:w'.cell? ⟨w.heap.size,5,none⟩ = some (.slice A1 ([] ++ body).length c1):=(blk_cell s0.2 5).trans rfl
  clear s0
  go_simp
  try rfl
 rotate_left
 ·simp only [Act.put,sA,sZ,sS]
  rfl
 refine one_ (i:=6) (N:=some 22) M1d rfl rfl (by kernel_rfl) (by decide) (fun K hK => ?_)
 refine value_ (v:=.slice (some ⟨w5.heap.size,0,none⟩) 1 1) (by rfl) rfl (w1:=w5.alloc (.cells #[.int .i64 kind,.int .u32 (X.sd 1).last.boot,.int .u32 (X.sd 1).last.mine,.int .u32 (X.sd 1).last.peer,.int .u32 (X.sd 1).last.yours,.slice A1 ([] ++ body).length c1] 67)) ?_ ?_
 ·first | (go_simp; done) | (go_simp; rfl)
 have hb2:=(Below.refl w5.heap.size w5).alloc (Nat.le_refl _) (.cells #[.int .i64 kind,.int .u32 (X.sd 1).last.boot,.int .u32 (X.sd 1).last.mine,.int .u32 (X.sd 1).last.peer,.int .u32 (X.sd 1).last.yours,.slice A1 ([] ++ body).length c1] 67)
 have HS5:=Lib.hid hHeld
 refine hK.out _ _ ⟨(hb2.block gp (blk_lt hHeld.1)).trans hHeld.1,(hb2.block w.heap.size (blk_lt hHeld.2)).trans hHeld.2⟩ (fun hHeld => ?_)
 clear hK K
 refine norm_ (a':=?_) ?_ ?_
 rotate_left
 ·show Act.put _ (some 22) _ = _
  simp only [Act.put,sA,sZ,sS]
  rfl
 refine one_ (i:=7) (N:=some 23) M13 rfl rfl (by kernel_rfl) (by decide) (fun K hK => ?_)
 have hQ5:=H.out.sub HBD.out
 have hM5:ent.M w5 B (fun k => w2.heap.size ≤ k ∧ k < w5.heap.size) (entF (X.sd 1) kind body) (ecells (entF (X.sd 1) kind body) (.slice A1 ([] ++ body).length c1)):=ent_M.2 ⟨_,rfl,HRB.out⟩
 refine Kd.R_append_step ent (w0:=w) (W:=w5) B ?hw (.tmp 20) (.tmp 22) 64 67 (.agg #[.int .i64 0,.int .u32 0,.int .u32 0,.int .u32 0,.int .u32 0,.slice none 0 0]) 48 ?ho Try.underlying64 info67 ?hz ?hs0 ?hb0 (lv 1) (X.sd 1).log (entF (X.sd 1) kind body) (ecells (entF (X.sd 1) kind body) (.slice A1 ([] ++ body).length c1)) (fun k => own 4 k ∨ w.heap.size ≤ k) (fun k => (w2.heap.size ≤ k ∧ k < w5.heap.size) ∧ some k ≠ (lv 1).ownBlock) ?hs ?hx (ent_free hM5 (hQ5.l 1 (by decide))) ?hokp ?hf (Kd.R_mono (hQ5.l 1 (by decide)) (fun _ hk => .inl hk)) (HBD.out.mono H.out.hB) hQ5.hB ?hl ?hk
 case hw => rfl
 case ho => rfl
 case hz => rfl
 case hs0 => decide
 case hb0 => decide
 case hs => rw [HLV.out]; rfl
 case hx => rfl
 case hokp => exact fun k hk => ⟨.inr (by have:=HS2.out; have:=HF2.out.2.size; omega),hk.2⟩
 case hf => exact fun k hk => .inr (by have:=HBD.out.size; omega)
 case hl => have:=HLL.out; omega
 intro o1 w6 hR hbl hg _
 obtain ⟨A6,c6,ho1⟩:=Kd.R_slice hR
 generalize ((X.sd 1).log ++ [entF (X.sd 1) kind body]).length = n6 at ho1
 subst ho1
 have hK6:Kept w w6 (own 4):=Kept.of_grown hg (Kept.of_below HBD.out _) (fun k hk => .inl ((H.out.l 1 (by decide)).1 k hk))
 have hX6:w6.heap[gp]? = some (.cells (prow X ge lv wv) 143 (0,0)):=blk_kept H.out.blk hK6 (H.out.gp0 _)
 have hY6:w6.heap[w.heap.size]? = some (.cells #[.int .i64 kind,.int .u32 (X.sd 1).last.boot,.int .u32 (X.sd 1).last.mine,.int .u32 (X.sd 1).last.peer,.int .u32 (X.sd 1).last.yours,.slice A1 ([] ++ body).length c1] 67 (0,0)):=(hg.block w.heap.size (blk_lt HS5.out.2) (fun he => by have:=H.out.lt _ _ ((H.out.l 1 (by decide)).1 _ he.symm); omega)).trans HS5.out.2
 have HX6:=Lib.hid hX6
 have HR6:=Lib.hid hR
 have HK6:=Lib.hid hK6
 have HBl6:=Lib.hid hbl
 clear hR hbl hg hK6 hQ5 hM5 hHeld HS5
 refine hK.out _ _ ⟨hX6,hY6⟩ (fun hHeld => ?_)
 clear hK K hX6 hY6
 refine norm_ (a':=?_) ?_ ?_
 rotate_left
 ·show Act.put _ (some 23) _ = _
  simp only [Act.put,sA,sZ,sS]
  rfl
 refine pure_ (i:=8) (N:=some 24) (v:=?_) (a':=?_) M14 rfl rfl (by kernel_rfl) (fun _ _ _ h => h) (Or.inl ⟨by rfl,?_⟩) ?_ ?_
 rotate_left
 ·intro w'
  go_simp
  with_reducible rfl
 rotate_left
 ·simp only [Act.put,sA,sZ,sS]
  rfl
 refine pure_ (i:=9) (N:=some 25) (v:=?_) (a':=?_) M15 rfl rfl (by kernel_rfl) (fun _ _ _ h => h) (Or.inl ⟨by rfl,?_⟩) ?_ ?_
 rotate_left
 ·intro w'
  go_simp
  with_reducible rfl
 rotate_left
 ·simp only [Act.put,sA,sZ,sS]
  rfl
 refine last_ (i:=10) (N:=none) M16 rfl rfl (by kernel_rfl) (by decide) (fun K hK => ?_)
 have hz1:w6.cell? ⟨gp,11,none⟩ = some _:=(blk_cell HX6.out 11).trans rfl
 have hz2:=blk_frozen HX6.out 11
 refine skip_F (fun wz => Moves w B gp ge own (X.set 1 (noteF (X.sd 1) kind body)) (fun k => k = gp ∨ own 4 k) wz) (by rfl) rfl ⟨_,by first | (go_simp; done) | (go_simp; rfl),⟨_,_,wv,H.out.newlog (s:=1) (by decide) HK6.out HR6.out,Grew.grow _ (Nat.le_refl _),Kept.setCell (p:=⟨gp,11,none⟩) (HK6.out.mono (fun k hk => .inr hk)) (.inl (.inl rfl)) _,HBl6.out.setCell (p:=⟨gp,11,none⟩) H.out.low _⟩⟩ (fun w7 hF => ?_)
 have HF:=Lib.hid hF
 clear hF hz1 hz2 hHeld
 refine hK.out _ _ ?_
 clear hK K
 refine done_ (by kernel_rfl) ?_
 go_wp2
 go_end0
 exact ⟨rfl,HF.out⟩
end Go.Proofs.Ytnkkgofpifhoeaa.Pr
end
section
namespace Go.Proofs.Ytnkkgofpifhoeaa.Pr
open Go.RowKit Go.Proofs.Ytnkkgofpifhoeaa.Base Go.Proofs.Ytnkkgofpifhoeaa.Steps Go.Proofs.Ytnkkgofpifhoeaa.Lk Go.Proofs.Ytnkkgofpifhoeaa.Win Go.Proofs.YtnkkgofpifhoeaaW.PrintWords Go.Proofs.YtnkkgofpifhoeaaW.PrintLast
def entx (N:Nat):Kd (Ent × Bool) where
 sz:=6
 E:=[5]
 K:=fun w x cs => ent.K w x.1 cs
 M:=fun w base ok x cs => ent.M w base (fun k => ok k ∧ (x.2 = true → N ≤ k)) x.1 cs
 K_len:=fun h => ent.K_len h
 K_one:=fun h => ent.K_one h
 K_below:=fun hb h => ent.K_below hb h
 K_of_M:=fun h => ent.K_of_M h
 M_mono:=fun h hm => ent.M_mono (fun k hk => ⟨h k hk.1,hk.2⟩) hm
 M_bound:=fun h => ent.M_mono (fun k hk => ⟨⟨hk.1.1,hk.2⟩,hk.1.2⟩) (ent.M_bound h)
 M_move:=fun hm h => ent.M_move (fun k hk => hm k hk.1) h
 M_lower:=fun hb h => ent.M_lower hb h
def flg (l:List Ent) (i:Nat):List (Ent × Bool):=(l.take i).map (fun x => (x,true)) ++ (l.drop i).map (fun x => (x,false))
theorem flg_len (l:List Ent) (i:Nat):(flg l i).length = l.length:=by unfold flg; simp; omega
theorem flg_zero (l:List Ent):flg l 0 = l.map (fun x => (x,false)):=by simp [flg]
theorem flg_all (l:List Ent):flg l l.length = l.map (fun x => (x,true)):=by simp [flg]
def nilE:Ent:=⟨0,0,0,0,0,[]⟩
theorem flg_get (l:List Ent) (i:Nat) (hi:i < l.length):(flg l i).getD i (nilE,false) = (l.getD i nilE,false):=by
 unfold flg
 rw [List.getD_eq_getElem?_getD,List.getElem?_append_right (by simp; omega),List.getD_eq_getElem?_getD]
 have:i - (List.map (fun x => (x,true)) (l.take i)).length = 0:=by simp; omega
 rw [this,List.getElem?_map,List.getElem?_drop,Nat.add_zero,List.getElem?_eq_getElem hi]
 rfl
theorem flg_set (l:List Ent) (i:Nat) (hi:i < l.length):(flg l i).set i (l.getD i nilE,true) = flg l (i + 1):=by
 unfold flg
 have hlen:(List.map (fun x => (x,true)) (l.take i)).length = i:=by simp; omega
 rw [List.set_append_right _ _ (by omega),hlen,Nat.sub_self]
 have hd:l.drop i = l.getD i nilE :: l.drop (i + 1):=by
  rw [List.getD_eq_getElem?_getD,List.getElem?_eq_getElem hi]; exact (List.drop_eq_getElem_cons hi)
 have ht:l.take (i + 1) = l.take i ++ [l.getD i nilE]:=by
  rw [List.take_add_one,List.getD_eq_getElem?_getD,List.getElem?_eq_getElem hi]; rfl
 rw [hd,ht]
 simp
theorem entx_slice {w:World} {B N:Nat} {ok:Nat → Prop} {v:Value} {l:List Ent} {i:Nat} (h:(entx N).R 67 w B ok v (flg l i)):∃ A c,v = .slice A l.length c:=by
 obtain ⟨A,c,hv⟩:=Kd.R_slice h
 rw [flg_len] at hv
 exact ⟨A,c,hv⟩
theorem entx_all {w:World} {B N:Nat} {ok:Nat → Prop} {v:Value} {l:List Ent} (h:(entx N).R 67 w B ok v (flg l l.length)) (hv:∀ k,v.ownBlock = some k → N ≤ k):ent.R 67 w B (fun k => N ≤ k) v l:=by
 rw [flg_all] at h
 obtain ⟨h0,inner,ho,hr⟩:=h
 refine ⟨hv,inner,by rw [List.length_map] at ho; exact ho,⟨by have:=hr.1; rw [List.length_map] at this; exact this,fun j p hj => ?_⟩⟩
 have:=hr.2 j (p,true) (by simp [hj])
 exact ent.M_mono (fun k hk => ⟨hk.2 rfl,hk.1.2⟩) this
theorem log_rows {w:World} {B:Nat} {ok:Nat → Prop} {v:Value} {l:List Ent} (h:ent.R 67 w B ok v l):∃ A c,v = .slice A l.length c ∧ ReadsRow (fun (x:Ent × Bool) cs => x.2 = false ∧ ent.M w B ok x.1 cs) 6 w A l.length (l.map (fun x => (x,false))):=by
 obtain ⟨h0,inner,ho,hr⟩:=h
 refine own_reads_row (R:=fun (x:Ent × Bool) cs => x.2 = false ∧ ent.M w B ok x.1 cs) ho ⟨by have:=hr.1; rw [List.length_map]; exact this,fun j p hj => ?_⟩ (by simp)
 rw [List.getElem?_map] at hj
 obtain ⟨q,hq,hp⟩:=Option.map_eq_some_iff.1 hj
 subst hp
 exact ⟨rfl,ent.M_mono (fun k hk => hk.1) (hr.2 j q hq)⟩
def LGR (w:World) (B:Nat) (okA:Nat → Prop) (v:Value) (l:List Ent) (i:Nat) (wr:World):Prop:=(entx w.heap.size).R 67 wr B okA v (flg l i) ∧ Below w.heap.size w wr
theorem LGR.elem {w wr:World} {B n c i:Nat} {okA:Nat → Prop} {A:Option Addr} {l:List Ent} (h:LGR w B okA (.slice A n c) l i wr) (hi:i < l.length) :
  ∃ g Ab cb,A = some ⟨g,0,none⟩ ∧ n = l.length ∧ (Kd.int .u8).R 5 wr B (fun k => okA k ∧ k ≠ g) (.slice Ab (l.getD i nilE).body.length cb) (l.getD i nilE).body ∧ (∀ j u,(ecells (l.getD i nilE) (.slice Ab (l.getD i nilE).body.length cb))[j]? = some u → wr.cell? ⟨g,(i:Int).toNat * 6 + j,none⟩ = some u) ∧ ∀ j,wr.frozen? ⟨g,(i:Int).toNat * 6 + j,none⟩ = false:=by
 obtain ⟨hR,hb⟩:=h
 obtain ⟨hn,hnc,hC⟩:=Kd.R_reads' hR
 rw [flg_len] at hn
 obtain ⟨gx,cap,he,_⟩:=Kd.R_form hR (by rw [flg_len]; omega)
 injection he with h1 h2 h3
 subst h1
 obtain ⟨cs,hl,hM,hc,hf⟩:=Kd.R_elem hR (nilE,false) (i:Int) (by omega) (by omega)
 rw [show ((i:Int).toNat) = i from rfl,flg_get l i hi] at hM
 obtain ⟨b,hcs,hRb⟩:=ent_M.1 hM
 obtain ⟨Ab,cb,hbv⟩:=Kd.R_slice hRb
 subst hbv
 subst hcs
 exact ⟨gx,Ab,cb,rfl,hn,Kd.R_mono hRb (fun k hk => hk.1),hc,hf⟩
set_option maxRecDepth 100000 in
set_option maxHeartbeats 2000000 in
theorem log_0 {w:World} {B gp:Nat} {ge:Nat → Nat} {own:Nat → Nat → Prop} {X:Pr} {lv:Nat → Value} {wv:Value} (h:PAt w B gp ge own X lv wv) (hll:(X.sd 0).log.length ≤ 1000000) (hbd:∀ x ∈ (X.sd 0).log,x.body.length ≤ 1000000):Calls Try.prog 38 #[.pointer (some ⟨gp,0,none⟩),.int .i64 0] w fun e w' => ∃ v,e = .returned v ∧ ent.R 67 w' B (fun k => w.heap.size ≤ k) v (X.sd 0).log ∧ Below w.heap.size w w':=by
 obtain ⟨Al,cl,hlv,hrr⟩:=log_rows (h.l 0 (by decide))
 have hcl:w.cell? ⟨gp,2,none⟩ = some (.slice Al (X.sd 0).log.length cl):=(blk_cell h.blk 2).trans (by rw [← hlv]; rfl)
 have H:=Lib.hid h
 have HRR:=Lib.hid hrr
 have HLL:=Lib.hid hll
 have HBD:=Lib.hid hbd
 clear h hlv hrr hll hbd
 generalize hl0:(X.sd 0).log = l at *
 have HL0:=Lib.hid hl0
 clear hl0
 generalize hnl:l.length = n at *
 have HN:=Lib.hid hnl
 clear hnl
 go_enter Try.func38,Try.ntmps38
 go_wp2_with (first | (go_at_call 81; (have hc:=has_of w gp 0 (by decide)); rw [show ((0:Nat):Int) = 0 from rfl] at hc; (with_reducible refine hc.mono ?_); clear hc; rintro e w9 ⟨rfl,rfl⟩) | ((with_reducible refine gate_dst (N:=18) rfl ?_); (refine Kd.R_append_rows (entx w.heap.size) (Rr:=fun (x:Ent × Bool) cs => x.2 = false ∧ ent.M w B (own 3) x.1 cs) (w0:=w) (W:=w) B rfl (.const (.slice none 0 0)) (.tmp 17) 64 67 (.agg #[.int .i64 0,.int .u32 0,.int .u32 0,.int .u32 0,.int .u32 0,.slice none 0 0]) 48 rfl Try.underlying64 info67 rfl (show 0 < 6 by decide) (by decide) (.slice none 0 0) [] (l.map (fun x => (x,false))) Al n cl (fun k => own 3 k ∨ w.heap.size ≤ k) (own 3) rfl rfl (Kd.R_nil _ _ _ _ _) HRR.out (fun x cs hx => ent.M_mono (fun k hk => ⟨hk,fun hf => absurd (hx.1.symm.trans hf) (by decide)⟩) hx.2) (fun k hk => ⟨.inl hk,by simp [Value.ownBlock]⟩) (fun k hk => .inr hk) (Below.refl _ _) H.out.hB (by have:=HLL.out; simp; omega) ?_); (intro v1 w1 hR hbl hg hat); (rw [List.nil_append,← flg_zero] at hR); (have HO:=Lib.hid (show ∀ k,v1.ownBlock = some k → w.heap.size ≤ k from fun k hk => by rcases hat with hat | ⟨b,hat,hb⟩; (rw [hat] at hk; simp [Value.ownBlock] at hk); (rw [hat] at hk; injection hk with hk; omega))); (have HL1:=Lib.hid (show LGR w B (fun k => own 3 k ∨ w.heap.size ≤ k) v1 l 0 w1 from ⟨hR,⟨hg.os,hg.tape,hg.output,hg.size,fun k hk => hg.block k hk (by simp [Value.ownBlock])⟩⟩)); (obtain ⟨A1,c1,hv1⟩:=entx_slice hR); (rw [HN.out] at hv1); (subst hv1); (clear hR hbl hg hat)))
 go_loopg [21] n (fun m v wr => ∃ i:Nat,m = n - i ∧ i ≤ n ∧ v = .int .i64 (i:Int) ∧ LGR w B (fun k => own 3 k ∨ w.heap.size ≤ k) (.slice A1 n c1) l i wr)
 case atStart => exact ⟨0,rfl,Nat.zero_le _,rfl,HL1.out⟩
 case round =>
  obtain ⟨i,hm,hin,rfl,hF⟩:=hrel
  have HM:=Lib.hid hm
  have HIN:=Lib.hid hin
  have HF:=Lib.hid hF
  clear hm hin hF
  have hn6:=HLL.out
  by_cases hlt:i < n
  ·have hd:decide ((i:Int) < (n:Int)) = true:=by simp [hlt]
   obtain ⟨g,Ab,cb,hA1,hnn,hRb,hcs,hfr⟩:=HF.out.elem (by rw [HN.out]; exact hlt)
   subst hA1
   have hbl:(l.getD i nilE).body.length ≤ 1000000:=HBD.out _ (by rw [List.getD_eq_getElem?_getD,List.getElem?_eq_getElem (by rw [HN.out]; exact hlt)]; exact List.getElem_mem _)
   generalize hx:l.getD i nilE = x at *
   have HX:=Lib.hid hx
   have HRB:=Lib.hid hRb
   have HCS:=Lib.hid hcs
   have HBL:=Lib.hid hbl
   generalize hnb:x.body.length = nb at *
   have HNB:=Lib.hid hnb
   clear hnb hx hRb hbl
   have hc5:wr.cell? ⟨g,i * 6 + 5,none⟩ = some (.slice Ab nb cb):=by have:=hcs 5 _ rfl; simpa using this
   clear hcs hfr hnn
   go_wp2_with (first | ((with_reducible refine gate_dst (N:=31) rfl ?_); (refine Kd.R_append_rows (Kd.int .u8) (Rr:=fun x cs => cs = [Value.int .u8 x]) (w0:=wr) (W:=wr) B rfl (.const (.slice none 0 0)) (.tmp 30) 22 5 (.int .u8 0) 1 rfl Try.underlying22 info5' rfl (by decide) (by decide) (.slice none 0 0) [] x.body Ab nb cb (fun k => wr.heap.size ≤ k) (fun _ => False) rfl rfl (Kd.R_nil _ _ _ _ _) (by have:=(Kd.R_reads' HRB.out).2.2; rw [HNB.out] at this; exact this) (fun _ _ hx => hx) (fun _ hf => hf.elim) (fun k hk => hk) (Below.refl _ _) (Nat.le_trans H.out.hB HF.out.2.size) (by have:=HBL.out; have:=HNB.out; simp; omega) ?_); (intro v2 w2 hR2 hbl2 hg2 _); (rw [List.nil_append] at hR2); (obtain ⟨A2,c2,hv2⟩:=Kd.R_slice hR2); (rw [HNB.out] at hv2); (subst hv2); (have hbw:Below wr.heap.size wr w2:=⟨hg2.os,hg2.tape,hg2.output,hg2.size,fun k hk => hg2.block k hk (by simp [Value.ownBlock])⟩); (have HBW:=Lib.hid hbw); (have HR2:=Lib.hid hR2); (have HL2:=Lib.hid (Kd.R_below HF.out.1 hbw)); (have HCW:=Lib.hid (show ∀ j u,(ecells x (.slice Ab nb cb))[j]? = some u → w2.cell? ⟨g,(i:Int).toNat * 6 + j,none⟩ = some u from fun j u hu => pw_cell_below hbw (HCS.out j u hu))); (clear hR2 hbl2 hg2 hbw)) | ((with_reducible refine gate_ (.store 22 (.tmp 33) (.tmp 31)) rfl ?_); (refine Kd.R_store (entx w.heap.size) (w0:=w2) (W:=w2) B rfl rfl 22 (.tmp 33) (.tmp 31) rfl 67 (i:Int) 5 (flg l i) (x,true) (.slice A2 nb c2) [.slice A2 nb c2] (ecells x (.slice Ab nb cb)) (fun k => own 3 k ∨ w.heap.size ≤ k) (fun k => wr.heap.size ≤ k) rfl (by first | rfl | (simp [entx]; done)) rfl rfl (by kernel_rfl) (by simp [Value.oneCell']) HL2.out (by omega) (by omega) rfl HCW.out (by show 6 ≤ 6; decide) (show ent.M w2 B (fun k => wr.heap.size ≤ k ∧ (true = true → w.heap.size ≤ k)) x (ecells x (.slice A2 nb c2)) from ent_M.2 ⟨_,rfl,by have:=HR2.out; have hz:=HF.out.2.size; exact Kd.R_mono this (fun k hk => ⟨hk,fun _ => Nat.le_trans hz hk⟩)⟩) (fun k hk => ⟨.inr (Nat.le_trans HF.out.2.size hk),fun he => by have:=Kd.R_lt HF.out.1 g (by simp [Value.ownBlock]); omega⟩) (Below.refl _ _) ?_); (intro w3 hR3 _ hg3); (have HST:=Lib.hid (show LGR w B (fun k => own 3 k ∨ w.heap.size ≤ k) (.slice (some ⟨g,0,none⟩) n c1) l (i + 1) w3 from ⟨by rw [← flg_set l i (by rw [HN.out]; exact hlt),HX.out]; exact hR3,(HF.out.2.trans (HBW.out.mono HF.out.2.size)).grown hg3 (by have:=HF.out.2.size; have:=HBW.out.size; omega) (fun k hk => by injection hk with hk; subst hk; exact HO.out _ (by simp [Value.ownBlock]))⟩)); (clear hR3 hg3)))
   go_roundg (n - (i + 1))
   case measure => have:=HM.out; omega
   case rel => exact ⟨i + 1,rfl,by omega,by first | rfl | simp,HST.out⟩
  ·have hd:decide ((i:Int) < (n:Int)) = false:=by simp; omega
   have hie:i = n:=by have:=HIN.out; omega
   subst hie
   go_wp2_with fail
   all_goals (go_ret; refine ⟨_,rfl,?_,HF.out.2⟩)
   have hh:=HF.out.1
   have hx:=HN.out
   have ho:=HO.out
   rw [← hx] at hh ho
   have hy:=entx_all hh ho
   rw [hx] at hy
   exact hy
set_option maxRecDepth 100000 in
set_option maxHeartbeats 2000000 in
theorem log_1 {w:World} {B gp:Nat} {ge:Nat → Nat} {own:Nat → Nat → Prop} {X:Pr} {lv:Nat → Value} {wv:Value} (h:PAt w B gp ge own X lv wv) (hll:(X.sd 1).log.length ≤ 1000000) (hbd:∀ x ∈ (X.sd 1).log,x.body.length ≤ 1000000):Calls Try.prog 38 #[.pointer (some ⟨gp,0,none⟩),.int .i64 1] w fun e w' => ∃ v,e = .returned v ∧ ent.R 67 w' B (fun k => w.heap.size ≤ k) v (X.sd 1).log ∧ Below w.heap.size w w':=by
 obtain ⟨Al,cl,hlv,hrr⟩:=log_rows (h.l 1 (by decide))
 have hcl:w.cell? ⟨gp,11,none⟩ = some (.slice Al (X.sd 1).log.length cl):=(blk_cell h.blk 11).trans (by rw [← hlv]; rfl)
 have H:=Lib.hid h
 have HRR:=Lib.hid hrr
 have HLL:=Lib.hid hll
 have HBD:=Lib.hid hbd
 clear h hlv hrr hll hbd
 generalize hl0:(X.sd 1).log = l at *
 have HL0:=Lib.hid hl0
 clear hl0
 generalize hnl:l.length = n at *
 have HN:=Lib.hid hnl
 clear hnl
 go_enter Try.func38,Try.ntmps38
 go_wp2_with (first | (go_at_call 81; (have hc:=has_of w gp 1 (by decide)); rw [show ((1:Nat):Int) = 1 from rfl] at hc; (with_reducible refine hc.mono ?_); clear hc; rintro e w9 ⟨rfl,rfl⟩) | ((with_reducible refine gate_dst (N:=18) rfl ?_); (refine Kd.R_append_rows (entx w.heap.size) (Rr:=fun (x:Ent × Bool) cs => x.2 = false ∧ ent.M w B (own 4) x.1 cs) (w0:=w) (W:=w) B rfl (.const (.slice none 0 0)) (.tmp 17) 64 67 (.agg #[.int .i64 0,.int .u32 0,.int .u32 0,.int .u32 0,.int .u32 0,.slice none 0 0]) 48 rfl Try.underlying64 info67 rfl (show 0 < 6 by decide) (by decide) (.slice none 0 0) [] (l.map (fun x => (x,false))) Al n cl (fun k => own 4 k ∨ w.heap.size ≤ k) (own 4) rfl rfl (Kd.R_nil _ _ _ _ _) HRR.out (fun x cs hx => ent.M_mono (fun k hk => ⟨hk,fun hf => absurd (hx.1.symm.trans hf) (by decide)⟩) hx.2) (fun k hk => ⟨.inl hk,by simp [Value.ownBlock]⟩) (fun k hk => .inr hk) (Below.refl _ _) H.out.hB (by have:=HLL.out; simp; omega) ?_); (intro v1 w1 hR hbl hg hat); (rw [List.nil_append,← flg_zero] at hR); (have HO:=Lib.hid (show ∀ k,v1.ownBlock = some k → w.heap.size ≤ k from fun k hk => by rcases hat with hat | ⟨b,hat,hb⟩; (rw [hat] at hk; simp [Value.ownBlock] at hk); (rw [hat] at hk; injection hk with hk; omega))); (have HL1:=Lib.hid (show LGR w B (fun k => own 4 k ∨ w.heap.size ≤ k) v1 l 0 w1 from ⟨hR,⟨hg.os,hg.tape,hg.output,hg.size,fun k hk => hg.block k hk (by simp [Value.ownBlock])⟩⟩)); (obtain ⟨A1,c1,hv1⟩:=entx_slice hR); (rw [HN.out] at hv1); (subst hv1); (clear hR hbl hg hat)))
 go_loopg [21] n (fun m v wr => ∃ i:Nat,m = n - i ∧ i ≤ n ∧ v = .int .i64 (i:Int) ∧ LGR w B (fun k => own 4 k ∨ w.heap.size ≤ k) (.slice A1 n c1) l i wr)
 case atStart => exact ⟨0,rfl,Nat.zero_le _,rfl,HL1.out⟩
 case round =>
  obtain ⟨i,hm,hin,rfl,hF⟩:=hrel
  have HM:=Lib.hid hm
  have HIN:=Lib.hid hin
  have HF:=Lib.hid hF
  clear hm hin hF
  have hn6:=HLL.out
  by_cases hlt:i < n
  ·have hd:decide ((i:Int) < (n:Int)) = true:=by simp [hlt]
   obtain ⟨g,Ab,cb,hA1,hnn,hRb,hcs,hfr⟩:=HF.out.elem (by rw [HN.out]; exact hlt)
   subst hA1
   have hbl:(l.getD i nilE).body.length ≤ 1000000:=HBD.out _ (by rw [List.getD_eq_getElem?_getD,List.getElem?_eq_getElem (by rw [HN.out]; exact hlt)]; exact List.getElem_mem _)
   generalize hx:l.getD i nilE = x at *
   have HX:=Lib.hid hx
   have HRB:=Lib.hid hRb
   have HCS:=Lib.hid hcs
   have HBL:=Lib.hid hbl
   generalize hnb:x.body.length = nb at *
   have HNB:=Lib.hid hnb
   clear hnb hx hRb hbl
   have hc5:wr.cell? ⟨g,i * 6 + 5,none⟩ = some (.slice Ab nb cb):=by have:=hcs 5 _ rfl; simpa using this
   clear hcs hfr hnn
   go_wp2_with (first | ((with_reducible refine gate_dst (N:=31) rfl ?_); (refine Kd.R_append_rows (Kd.int .u8) (Rr:=fun x cs => cs = [Value.int .u8 x]) (w0:=wr) (W:=wr) B rfl (.const (.slice none 0 0)) (.tmp 30) 22 5 (.int .u8 0) 1 rfl Try.underlying22 info5' rfl (by decide) (by decide) (.slice none 0 0) [] x.body Ab nb cb (fun k => wr.heap.size ≤ k) (fun _ => False) rfl rfl (Kd.R_nil _ _ _ _ _) (by have:=(Kd.R_reads' HRB.out).2.2; rw [HNB.out] at this; exact this) (fun _ _ hx => hx) (fun _ hf => hf.elim) (fun k hk => hk) (Below.refl _ _) (Nat.le_trans H.out.hB HF.out.2.size) (by have:=HBL.out; have:=HNB.out; simp; omega) ?_); (intro v2 w2 hR2 hbl2 hg2 _); (rw [List.nil_append] at hR2); (obtain ⟨A2,c2,hv2⟩:=Kd.R_slice hR2); (rw [HNB.out] at hv2); (subst hv2); (have hbw:Below wr.heap.size wr w2:=⟨hg2.os,hg2.tape,hg2.output,hg2.size,fun k hk => hg2.block k hk (by simp [Value.ownBlock])⟩); (have HBW:=Lib.hid hbw); (have HR2:=Lib.hid hR2); (have HL2:=Lib.hid (Kd.R_below HF.out.1 hbw)); (have HCW:=Lib.hid (show ∀ j u,(ecells x (.slice Ab nb cb))[j]? = some u → w2.cell? ⟨g,(i:Int).toNat * 6 + j,none⟩ = some u from fun j u hu => pw_cell_below hbw (HCS.out j u hu))); (clear hR2 hbl2 hg2 hbw)) | ((with_reducible refine gate_ (.store 22 (.tmp 33) (.tmp 31)) rfl ?_); (refine Kd.R_store (entx w.heap.size) (w0:=w2) (W:=w2) B rfl rfl 22 (.tmp 33) (.tmp 31) rfl 67 (i:Int) 5 (flg l i) (x,true) (.slice A2 nb c2) [.slice A2 nb c2] (ecells x (.slice Ab nb cb)) (fun k => own 4 k ∨ w.heap.size ≤ k) (fun k => wr.heap.size ≤ k) rfl (by first | rfl | (simp [entx]; done)) rfl rfl (by kernel_rfl) (by simp [Value.oneCell']) HL2.out (by omega) (by omega) rfl HCW.out (by show 6 ≤ 6; decide) (show ent.M w2 B (fun k => wr.heap.size ≤ k ∧ (true = true → w.heap.size ≤ k)) x (ecells x (.slice A2 nb c2)) from ent_M.2 ⟨_,rfl,by have:=HR2.out; have hz:=HF.out.2.size; exact Kd.R_mono this (fun k hk => ⟨hk,fun _ => Nat.le_trans hz hk⟩)⟩) (fun k hk => ⟨.inr (Nat.le_trans HF.out.2.size hk),fun he => by have:=Kd.R_lt HF.out.1 g (by simp [Value.ownBlock]); omega⟩) (Below.refl _ _) ?_); (intro w3 hR3 _ hg3); (have HST:=Lib.hid (show LGR w B (fun k => own 4 k ∨ w.heap.size ≤ k) (.slice (some ⟨g,0,none⟩) n c1) l (i + 1) w3 from ⟨by rw [← flg_set l i (by rw [HN.out]; exact hlt),HX.out]; exact hR3,(HF.out.2.trans (HBW.out.mono HF.out.2.size)).grown hg3 (by have:=HF.out.2.size; have:=HBW.out.size; omega) (fun k hk => by injection hk with hk; subst hk; exact HO.out _ (by simp [Value.ownBlock]))⟩)); (clear hR3 hg3)))
   go_roundg (n - (i + 1))
   case measure => have:=HM.out; omega
   case rel => exact ⟨i + 1,rfl,by omega,by first | rfl | simp,HST.out⟩
  ·have hd:decide ((i:Int) < (n:Int)) = false:=by simp; omega
   have hie:i = n:=by have:=HIN.out; omega
   subst hie
   go_wp2_with fail
   all_goals (go_ret; refine ⟨_,rfl,?_,HF.out.2⟩)
   have hh:=HF.out.1
   have hx:=HN.out
   have ho:=HO.out
   rw [← hx] at hh ho
   have hy:=entx_all hh ho
   rw [hx] at hy
   exact hy
end Go.Proofs.Ytnkkgofpifhoeaa.Pr
end
section
namespace Go.Proofs.Ytnkkgofpifhoeaa.Pr
open Go.RowKit Go.Proofs.Ytnkkgofpifhoeaa.Base Go.Proofs.Ytnkkgofpifhoeaa.Steps Go.Proofs.Ytnkkgofpifhoeaa.Lk Go.Proofs.Ytnkkgofpifhoeaa.Win Go.Proofs.YtnkkgofpifhoeaaW.PrintWords Go.Proofs.YtnkkgofpifhoeaaW.PrintLast
theorem elem141:Try.prog.elem 141 = 150:=by kernel_rfl
theorem size150 (W:World):(sizeOf (Try.prog.elem 141)).run Try.prog W = .ok 12 W:=by
 rw [elem141]
 obtain ⟨i0,hi0,_,hsz,_⟩:=info_parts info150
 go_simp
theorem slice_cap (A:Option Addr) (n c i:Nat) (hi:i ≤ n) (hc:n ≤ c) (W:World):(Instr.slice 141 (.slice A n c) none (some (.int .i64 (i:Int))) (some (.int .i64 (i:Int)))).run Try.prog W = .ok (.slice A i i) W:=by
 have hu:Try.prog.underlying 141 = some (.slice (Try.prog.elem 141)):=by kernel_rfl
 have e:=run_slice_hm (P:=Try.prog) W 141 A n c hu IntKind.i64 IntKind.i64 (i:Int) (i:Int) (by omega) (by omega) (by omega)
 rw [e,size150]
 have:(if i = 0 then A else A.map (·.add (0 * 12))) = A:=by
  split
  ·rfl
  ·cases A with
   | none => rfl
   | some a => first | rfl | (show some (a.add (0 * 12)) = some a; rw [Nat.zero_mul]; congr 1; unfold Addr.add; cases a; simp; done) | (show some (a.add (0 * 12)) = some a; rw [Nat.zero_mul]; congr 1; unfold Addr.add; cases a; rfl) | simp [Addr.add]
 show Result.ok (Value.slice (if (i:Int).toNat = 0 then A else A.map (·.add (0 * 12))) ((i:Int).toNat - 0) ((i:Int).toNat - 0)) W = _
 rw [Int.toNat_natCast,this]
 rfl
theorem slice_from (A:Option Addr) (n c i:Nat) (hi:i < n) (hc:n ≤ c) (W:World):(Instr.slice 141 (.slice A n c) (some (.int .i64 ((i:Int) + 1))) none none).run Try.prog W = .ok (.slice (if c = i + 1 then A else A.map (·.add ((i + 1) * 12))) (n - (i + 1)) (c - (i + 1))) W:=by
 have hu:Try.prog.underlying 141 = some (.slice (Try.prog.elem 141)):=by kernel_rfl
 have e:=run_slice_l (P:=Try.prog) W 141 A n c hu IntKind.i64 ((i:Int) + 1) (by omega) (by omega)
 rw [e,size150]
 have h1:((i:Int) + 1).toNat = i + 1:=by omega
 show Result.ok (Value.slice (if c = ((i:Int) + 1).toNat then A else A.map (·.add (((i:Int) + 1).toNat * 12))) (n - ((i:Int) + 1).toNat) (c - ((i:Int) + 1).toNat)) W = _
 rw [h1]
def nilF:Fl:=⟨0,0,nilP⟩
theorem wrapI (i:Nat) (hi:i < 1000000):IntKind.i64.wrap ((i:Int) + 1) = (i:Int) + 1:=by rw [IntKind.wrap_i64]; omega
theorem PAt.kept {w w':World} {B gp:Nat} {ge:Nat → Nat} {own:Nat → Nat → Prop} {X:Pr} {lv:Nat → Value} {wv:Value} {S:Nat → Prop} (h:PAt w B gp ge own X lv wv) (hk:Kept w w' S) (hg:¬ S gp) (hd:∀ i k,own i k → ¬ S k):PAt w' B gp ge own X lv wv :=
 ⟨blk_kept h.blk hk hg,h.low,h.gp0,h.disj,fun i k hx => Nat.lt_of_lt_of_le (h.lt i k hx) hk.1,fun s hs => (h.e s hs).kept hk (hd _),fun s hs => Kd.R_kept (h.l s hs) hk (hd _),h.way.kept hk (hd _)⟩
set_option maxRecDepth 100000 in
set_option maxHeartbeats 4000000 in
theorem out_p {w:World} {B gp:Nat} {ge:Nat → Nat} {own:Nat → Nat → Prop} {X:Pr} {lv:Nat → Value} {wv:Value} (h:PAt w B gp ge own X lv wv) (i:Nat) (hi:i < X.way.length) (hlw:X.way.length ≤ 1024) :
  Calls Try.prog 128 #[.pointer (some ⟨gp,0,none⟩),.int .i64 (i:Int)] w fun e w' => ∃ b,e = .returned (.agg (fcells (X.way.getD i nilF) b).toArray) ∧ (Kd.int .u8).R 5 w' B (own 5) b (X.way.getD i nilF).p.body ∧ Moves w B gp ge own { X with way:=X.way.eraseIdx i } (fun k => k = gp) w':=by
 obtain ⟨g,off,cw,cs,hv,hcl,hM,hg,hcell⟩:=h.way.elem nilF i hi
 subst hv
 obtain ⟨b,hcs,hR⟩:=fly_M.1 hM
 subst hcs
 generalize X.way.getD i nilF = f at *
 obtain ⟨Ab,cb,hb⟩:=Kd.R_slice hR
 subst hb
 obtain ⟨_,_,_,hvv,hlc,_⟩:=h.way.reads
 injection hvv with hv1 hv2 hv3
 subst hv3
 clear hv1 hv2 hM hcl
 have hba:Below w.heap.size w (w.alloc (.cells #[.int .i64 0,.int .u32 0,.int .i64 0,.int .u32 0,.int .u32 0,.int .u32 0,.int .u32 0,.int .u32 0,.int .u32 0,.int .u32 0,.complex .f64 0 0,.slice none 0 0] 150)):=(Below.refl _ _).alloc (Nat.le_refl _) _
 have HC2:=Lib.hid (show Below w.heap.size w (w.alloc (.cells #[.int .i64 0,.int .u32 0,.int .i64 0,.int .u32 0,.int .u32 0,.int .u32 0,.int .u32 0,.int .u32 0,.int .u32 0,.int .u32 0,.complex .f64 0 0,.slice none 0 0] 150)) from hba)
 have hc18:(w.alloc (.cells #[.int .i64 0,.int .u32 0,.int .i64 0,.int .u32 0,.int .u32 0,.int .u32 0,.int .u32 0,.int .u32 0,.int .u32 0,.int .u32 0,.complex .f64 0 0,.slice none 0 0] 150)).cell? ⟨gp,18,none⟩ = some (.slice (some ⟨g,off,none⟩) X.way.length _):=(blk_cell (h.sub hba).blk 18).trans rfl
 have HRG:=Lib.hid (show (w.alloc (.cells #[.int .i64 0,.int .u32 0,.int .i64 0,.int .u32 0,.int .u32 0,.int .u32 0,.int .u32 0,.int .u32 0,.int .u32 0,.int .u32 0,.complex .f64 0 0,.slice none 0 0] 150)).rangeAt g (off + i * 12) (fcells f (.slice Ab f.p.body.length cb)) from fun j u hu => cell_kept (hcell j u hu) (Kept.of_below hba (fun _ => False)) (fun x => x))
 have H:=Lib.hid h
 have HR:=Lib.hid hR
 have HI:=Lib.hid hi
 have HLC:=Lib.hid hlc
 have HZ:=Lib.hid (heap_alloc_new w (.cells #[.int .i64 0,.int .u32 0,.int .i64 0,.int .u32 0,.int .u32 0,.int .u32 0,.int .u32 0,.int .u32 0,.int .u32 0,.int .u32 0,.complex .f64 0 0,.slice none 0 0] 150))
 clear h hR hcell hlc hba
 generalize hwl:X.way.length = n at *
 have HWL:=Lib.hid hwl
 clear hwl
 go_enter Try.func128,Try.ntmps128
 go_wp2_with (first | ((with_reducible refine gate_dst (N:=12) rfl ?_); (refine wpList_load_mid rfl 150 (.tmp 11) rfl g (off + i * 12) (by first | rfl | (simp; done)) (fcells f (.slice Ab f.p.body.length cb)) _ HRG.out Try.underlying150 rfl (by kernel_rfl) ?_)) | ((with_reducible refine gate_ (.store 150 (.tmp 5) (.tmp 12)) rfl ?_); (refine store_row_F rfl rfl 150 (.tmp 5) (.tmp 12) rfl (w.alloc (.cells #[.int .i64 0,.int .u32 0,.int .i64 0,.int .u32 0,.int .u32 0,.int .u32 0,.int .u32 0,.int .u32 0,.int .u32 0,.int .u32 0,.complex .f64 0 0,.slice none 0 0] 150)).heap.size #[.int .i64 f.dst,.int .u32 f.boot,.int .i64 f.p.kind,.int .u32 f.p.mine,.int .u32 f.p.boot,.int .u32 f.p.yours,.int .u32 f.p.seq,.int .u32 f.p.ack,.int .u32 f.p.stamp,.int .u32 f.p.echo,.complex .f64 f.p.zr f.p.zi,.slice Ab f.p.body.length cb] (by first | (show Value.pointer (some ⟨w.heap.size + 1,0,none⟩) = _; simp; done) | (simp; rfl)) rfl 150 _ (heap_alloc_new (w.alloc (.cells #[.int .i64 0,.int .u32 0,.int .i64 0,.int .u32 0,.int .u32 0,.int .u32 0,.int .u32 0,.int .u32 0,.int .u32 0,.int .u32 0,.complex .f64 0 0,.slice none 0 0] 150)) _) (by kernel_rfl) rfl (by kernel_rfl) ?_); (intro w2 hb5 hat5); (have HB5:=Lib.hid hb5); (have HBL:=Lib.hid (hat5.below ((Below.refl (w.alloc (.cells #[.int .i64 0,.int .u32 0,.int .i64 0,.int .u32 0,.int .u32 0,.int .u32 0,.int .u32 0,.int .u32 0,.int .u32 0,.int .u32 0,.complex .f64 0 0,.slice none 0 0] 150)).heap.size (w.alloc (.cells #[.int .i64 0,.int .u32 0,.int .i64 0,.int .u32 0,.int .u32 0,.int .u32 0,.int .u32 0,.int .u32 0,.int .u32 0,.int .u32 0,.complex .f64 0 0,.slice none 0 0] 150))).alloc (Nat.le_refl _) _) (Nat.le_refl _))); (have hsz5:=hat5.size); (clear hb5 hat5)))
 have hbd0:Below w.heap.size w w2:=HC2.out.trans (HBL.out.mono HC2.out.size)
 have hz2:w2.heap.size = w.heap.size + 2:=by simpa using hsz5
 have hr4:w2.heap[w.heap.size]? = some (.cells #[.int .i64 0,.int .u32 0,.int .i64 0,.int .u32 0,.int .u32 0,.int .u32 0,.int .u32 0,.int .u32 0,.int .u32 0,.int .u32 0,.complex .f64 0 0,.slice none 0 0] 150 (0,0)):=(HBL.out.block w.heap.size (by simp)).trans HZ.out
 have hr5:w2.heap[w.heap.size + 1]? = some (.cells #[.int .i64 f.dst,.int .u32 f.boot,.int .i64 f.p.kind,.int .u32 f.p.mine,.int .u32 f.p.boot,.int .u32 f.p.yours,.int .u32 f.p.seq,.int .u32 f.p.ack,.int .u32 f.p.stamp,.int .u32 f.p.echo,.complex .f64 f.p.zr f.p.zi,.slice Ab f.p.body.length cb] 150 (0,0)):=by have:=HB5.out; rw [show (w.alloc (.cells #[.int .i64 0,.int .u32 0,.int .i64 0,.int .u32 0,.int .u32 0,.int .u32 0,.int .u32 0,.int .u32 0,.int .u32 0,.int .u32 0,.complex .f64 0 0,.slice none 0 0] 150)).heap.size = w.heap.size + 1 by simp] at this; exact this
 have hSS:w2.drew.heap[gp]? = some (.cells (prow X ge lv (.slice (some ⟨g,off,none⟩) n cw)) 143 (0,0)) ∧ w2.drew.heap[w.heap.size]? = some (.cells #[.int .i64 0,.int .u32 0,.int .i64 0,.int .u32 0,.int .u32 0,.int .u32 0,.int .u32 0,.int .u32 0,.int .u32 0,.int .u32 0,.complex .f64 0 0,.slice none 0 0] 150 (0,0)) ∧ w2.drew.heap[w.heap.size + 1]? = some (.cells #[.int .i64 f.dst,.int .u32 f.boot,.int .i64 f.p.kind,.int .u32 f.p.mine,.int .u32 f.p.boot,.int .u32 f.p.yours,.int .u32 f.p.seq,.int .u32 f.p.ack,.int .u32 f.p.stamp,.int .u32 f.p.echo,.complex .f64 f.p.zr f.p.zi,.slice Ab f.p.body.length cb] 150 (0,0)):=⟨(H.out.sub hbd0).blk,hr4,hr5⟩
 have hbd:=bl_drew hbd0
 have hsz:=(show w2.drew.heap.size = w.heap.size + 2 from hz2)
 have HI2:=Lib.hid (show i < n from HI.out)
 obtain ⟨A7,hA7⟩:∃ A,A = (if cw = i + 1 then some (⟨g,off,none⟩:Addr) else (some (⟨g,off,none⟩:Addr)).map (·.add ((i + 1) * 12))):=⟨_,rfl⟩
 have hwr:IntKind.i64.wrap ((i:Int) + 1) = (i:Int) + 1:=wrapI i (by have:=HI.out; omega)
 have hsf:∀ W:World,(Instr.slice 141 (.slice (some ⟨g,off,none⟩) n cw) (some (.int .i64 (IntKind.i64.wrap ((i:Int) + 1)))) none none).run Try.prog W = .ok (.slice A7 (n - (i + 1)) (cw - (i + 1))) W:=fun W => by rw [hwr,hA7]; exact slice_from (some ⟨g,off,none⟩) n cw i HI.out HLC.out W
 clear hwr
 have HSF:=Lib.hid hsf
 have HA7:=Lib.hid hA7
 have HSC:=Lib.hid (fun W => slice_cap (some ⟨g,off,none⟩) n cw i (Nat.le_of_lt HI.out) HLC.out W)
 have HN:=Lib.hid hlw
 clear hc18 hsz5 hbd0 hz2 hr4 hr5 HBL HB5 HZ HC2 hsf hA7 hlw
 refine start_ (n:=19) (S:=fun w' => w'.heap[gp]? = some (.cells (prow X ge lv (.slice (some ⟨g,off,none⟩) n cw)) 143 (0,0)) ∧ w'.heap[w.heap.size]? = some (.cells #[.int .i64 0,.int .u32 0,.int .i64 0,.int .u32 0,.int .u32 0,.int .u32 0,.int .u32 0,.int .u32 0,.int .u32 0,.int .u32 0,.complex .f64 0 0,.slice none 0 0] 150 (0,0)) ∧ w'.heap[w.heap.size + 1]? = some (.cells #[.int .i64 f.dst,.int .u32 f.boot,.int .i64 f.p.kind,.int .u32 f.p.mine,.int .u32 f.p.boot,.int .u32 f.p.yours,.int .u32 f.p.seq,.int .u32 f.p.ack,.int .u32 f.p.stamp,.int .u32 f.p.echo,.complex .f64 f.p.zr f.p.zi,.slice Ab f.p.body.length cb] 150 (0,0))) (ds:=[18]) M0g (by kernel_rfl) rfl rfl (hSS) (fun hHeld => ?_)
 generalize w2.drew = w3 at hbd hsz hHeld ⊢
 have HBD:=Lib.hid hbd
 have HSZ:=Lib.hid hsz
 clear hbd hsz
 refine pure_ (i:=0) (N:=some 13) (v:=?_) (a':=?_) M0h rfl rfl (by kernel_rfl) (fun _ _ _ h => h) (Or.inl ⟨by rfl,?_⟩) ?_ ?_
 rotate_left
 ·intro w'
  go_simp
  with_reducible rfl
 rotate_left
 ·simp only [Act.put,sA,sZ,sS]
  rfl
 refine pure_ (i:=1) (N:=some 14) (v:=?_) (a':=?_) M0i rfl rfl (by kernel_rfl) (fun _ _ _ h => h) (Or.inl ⟨by rfl,?_⟩) ?_ ?_
 rotate_left
 ·intro w'
  go_simp
  with_reducible rfl
 rotate_left
 ·simp only [Act.put,sA,sZ,sS]
  rfl
 refine pure_ (i:=2) (N:=some 15) (v:=?_) (a':=?_) M0j rfl rfl (by kernel_rfl) (fun _ _ _ h => h) (Or.inl ⟨by rfl,?_⟩) ?_ ?_
 rotate_left
 ·intro w'
  go_simp
  with_reducible rfl
 rotate_left
 ·simp only [Act.put,sA,sZ,sS]
  rfl
 refine pure_ (i:=3) (N:=some 16) (v:=?_) (a':=?_) M0k rfl rfl (by kernel_rfl) (fun _ _ _ h => h) (Or.inl ⟨by rfl,?_⟩) ?_ ?_
 rotate_left
 ·intro w'
  go_simp
  with_reducible rfl
 rotate_left
 ·simp only [Act.put,sA,sZ,sS]
  rfl
 refine take_ (i:=4) (N:=some 17) (v:=?_) (a':=?_) M0l rfl rfl (by kernel_rfl) (fun _ _ _ h => h) (Or.inl ⟨by rfl,?_⟩) hHeld ?_ ?_
 rotate_left
 ·intro w' s0
  have hc18:w'.cell? ⟨gp,18,none⟩ = some (.slice (some ⟨g,off,none⟩) n cw):=(blk_cell s0.1 18).trans rfl
  clear s0
  go_simp
  with_reducible rfl
 rotate_left
 ·simp only [Act.put,sA,sZ,sS]
  rfl
 refine pure_ (i:=5) (N:=some 18) (v:=?_) (a':=?_) M0m rfl rfl (by kernel_rfl) (fun _ _ _ h => h) (Or.inl ⟨by rfl,?_⟩) ?_ ?_
 rotate_left
 ·intro w'
  go_simp
  with_reducible rfl
 rotate_left
 ·simp only [Act.put,sA,sZ,sS]
  rfl
 refine pure_ (i:=6) (N:=some 19) (v:=?_) (a':=?_) M0n rfl rfl (by kernel_rfl) (fun _ _ _ h => h) (Or.inl ⟨by rfl,?_⟩) ?_ ?_
 rotate_left
 ·intro w'
  go_simp
  with_reducible rfl
 rotate_left
 ·simp only [Act.put,sA,sZ,sS]
  rfl
 refine pure_ (i:=7) (N:=some 20) (v:=?_) (a':=?_) M0o rfl rfl (by kernel_rfl) (fun _ _ _ h => h) (Or.inl ⟨by rfl,?_⟩) ?_ ?_
 rotate_left
 ·intro w'
  have hsc:=HSC.out w'
  go_simp
  rfl
 rotate_left
 ·simp only [Act.put,sA,sZ,sS]
  rfl
 refine pure_ (i:=8) (N:=some 21) (v:=?_) (a':=?_) M0p rfl rfl (by kernel_rfl) (fun _ _ _ h => h) (Or.inl ⟨by rfl,?_⟩) ?_ ?_
 rotate_left
 ·intro w'
  go_simp
  with_reducible rfl
 rotate_left
 ·simp only [Act.put,sA,sZ,sS]
  rfl
 refine pure_ (i:=9) (N:=some 22) (v:=?_) (a':=?_) M0q rfl rfl (by kernel_rfl) (fun _ _ _ h => h) (Or.inl ⟨by rfl,?_⟩) ?_ ?_
 rotate_left
 ·intro w'
  go_simp
  with_reducible rfl
 rotate_left
 ·simp only [Act.put,sA,sZ,sS]
  rfl
 refine pure_ (i:=10) (N:=some 23) (v:=?_) (a':=?_) M0r rfl rfl (by kernel_rfl) (fun _ _ _ h => h) (Or.inl ⟨by rfl,?_⟩) ?_ ?_
 rotate_left
 ·intro w'
  go_simp
  with_reducible rfl
 rotate_left
 ·simp only [Act.put,sA,sZ,sS]
  rfl
 refine take_ (i:=11) (N:=some 24) (v:=?_) (a':=?_) M0s rfl rfl (by kernel_rfl) (fun _ _ _ h => h) (Or.inl ⟨by rfl,?_⟩) hHeld ?_ ?_
 rotate_left
 ·intro w' s0
  have hc18:w'.cell? ⟨gp,18,none⟩ = some (.slice (some ⟨g,off,none⟩) n cw):=(blk_cell s0.1 18).trans rfl
  clear s0
  go_simp
  with_reducible rfl
 rotate_left
 ·simp only [Act.put,sA,sZ,sS]
  rfl
 refine pure_ (i:=12) (N:=some 25) (v:=?_) (a':=?_) M0t rfl rfl (by kernel_rfl) (fun _ _ _ h => h) (Or.inl ⟨by rfl,?_⟩) ?_ ?_
 rotate_left
 ·intro w'
  go_simp
  with_reducible rfl
 rotate_left
 ·simp only [Act.put,sA,sZ,sS]
  rfl
 refine pure_ (i:=13) (N:=some 26) (v:=?_) (a':=?_) M0u rfl rfl (by kernel_rfl) (fun _ _ _ h => h) (Or.inl ⟨by rfl,?_⟩) ?_ ?_
 rotate_left
 ·intro w'
  have hi1:=HI2.out
  have hi2:=HN.out
  go_simp
  rfl
 rotate_left
 ·simp only [Act.put,sA,sZ,sS]
  rfl
 refine pure_ (i:=14) (N:=some 27) (v:=?_) (a':=?_) M0v rfl rfl (by kernel_rfl) (fun _ _ _ h => h) (Or.inl ⟨by rfl,?_⟩) ?_ ?_
 rotate_left
 ·intro w'
  have hsc:=HSF.out w'
  go_simp
  rfl
 rotate_left
 ·simp only [Act.put,sA,sZ,sS]
  rfl
 refine one_ (i:=15) (N:=some 28) M0w rfl rfl (by kernel_rfl) (by decide) (fun K hK => ?_)
 have hQ2:=H.out.sub HBD.out
 obtain ⟨v1,w4,hrun,hW,hBl⟩:=Win.cut (P:=Try.prog) (d:=fly) 141 141 (.agg #[.int .i64 0,.int .u32 0,.int .i64 0,.int .u32 0,.int .u32 0,.int .u32 0,.int .u32 0,.int .u32 0,.int .u32 0,.int .u32 0,.complex .f64 0 0,.slice none 0 0]) 96 Try.underlying141 info150 rfl (by decide) (by rw [HWL.out]; exact hQ2.way) hQ2.hB i (by rw [HWL.out]; exact HI.out) (by rw [HWL.out]; have:=HN.out; omega)
 obtain ⟨A1,c1,_,hv1,_⟩:=hW.reads
 generalize (X.way.eraseIdx i).length = n1 at hv1
 subst hv1
 rw [HWL.out,show (i + 1) * Kd.sz fly = (i + 1) * 12 from rfl,← HA7.out] at hrun
 have hX4:w4.heap[gp]? = some (.cells (prow X ge lv (.slice (some ⟨g,off,none⟩) n cw)) 143 (0,0)):=(hBl.block gp (blk_lt hHeld.1)).trans hHeld.1
 have hY4:=(hBl.block w.heap.size (blk_lt hHeld.2.1)).trans hHeld.2.1
 have hZ4:=(hBl.block (w.heap.size + 1) (blk_lt hHeld.2.2)).trans hHeld.2.2
 refine append_step (P:=Try.prog) (w1:=w4) (v:=.slice (some ⟨g,off,none⟩) i i) ?hw (.tmp 20) (.tmp 27) 141 ?ho (.slice A7 (n - (i + 1)) (cw - (i + 1))) (.slice A1 n1 c1) ?hs ?hx ?hr ?hk
 case hw => rfl
 case ho => rfl
 case hs => rfl
 case hx => rfl
 case hr => exact hrun
 have HX4:=Lib.hid hX4
 have HW4:=Lib.hid hW
 have HB4:=Lib.hid hBl
 have HQ2:=Lib.hid hQ2
 clear hrun hW hBl hQ2 hHeld
 refine hK.out _ _ ⟨hX4,hY4,hZ4⟩ (fun hHeld => ?_)
 clear hK K hX4 hY4 hZ4
 refine norm_ (a':=?_) ?_ ?_
 rotate_left
 ·show Act.put _ (some 28) _ = _
  simp only [Act.put,sA,sZ,sS]
  rfl
 refine pure_ (i:=16) (N:=some 29) (v:=?_) (a':=?_) M0x rfl rfl (by kernel_rfl) (fun _ _ _ h => h) (Or.inl ⟨by rfl,?_⟩) ?_ ?_
 rotate_left
 ·intro w'
  go_simp
  with_reducible rfl
 rotate_left
 ·simp only [Act.put,sA,sZ,sS]
  rfl
 refine pure_ (i:=17) (N:=some 30) (v:=?_) (a':=?_) M0y rfl rfl (by kernel_rfl) (fun _ _ _ h => h) (Or.inl ⟨by rfl,?_⟩) ?_ ?_
 rotate_left
 ·intro w'
  go_simp
  with_reducible rfl
 rotate_left
 ·simp only [Act.put,sA,sZ,sS]
  rfl
 refine last_ (i:=18) (N:=none) M0z rfl rfl (by kernel_rfl) (by decide) (fun K hK => ?_)
 have hz1:w4.cell? ⟨gp,18,none⟩ = some (.slice (some ⟨g,off,none⟩) n cw):=(blk_cell HX4.out 18).trans rfl
 have hz2:=blk_frozen HX4.out 18
 refine skip_F (fun wz => PAt wz B gp ge (grow own 5 w3 w4) { X with way:=X.way.eraseIdx i } lv (.slice A1 n1 c1) ∧ Kept w wz (fun k => k = gp) ∧ Below B w wz ∧ wz.heap[w.heap.size]? = some (.cells #[.int .i64 0,.int .u32 0,.int .i64 0,.int .u32 0,.int .u32 0,.int .u32 0,.int .u32 0,.int .u32 0,.int .u32 0,.int .u32 0,.complex .f64 0 0,.slice none 0 0] 150 (0,0)) ∧ wz.heap[w.heap.size + 1]? = some (.cells #[.int .i64 f.dst,.int .u32 f.boot,.int .i64 f.p.kind,.int .u32 f.p.mine,.int .u32 f.p.boot,.int .u32 f.p.yours,.int .u32 f.p.seq,.int .u32 f.p.ack,.int .u32 f.p.stamp,.int .u32 f.p.echo,.complex .f64 f.p.zr f.p.zi,.slice Ab f.p.body.length cb] 150 (0,0))) (by rfl) rfl ⟨_,by first | (go_simp; done) | (go_simp; rfl),HQ2.out.newway (Kept.of_below HB4.out _) HW4.out,?_,?_,?_,?_⟩ (fun w5 hF => ?_)
 ·exact Kept.setCell (S:=fun k => k = gp) (p:=⟨gp,18,none⟩) (Kept.of_below (HBD.out.trans (HB4.out.mono HBD.out.size)) _) (.inl rfl) _
 ·exact ((HBD.out.trans (HB4.out.mono HBD.out.size)).mono H.out.hB).setCell (p:=⟨gp,18,none⟩) H.out.low _
 ·exact (Below.heap_setCell w4 ⟨gp,18,none⟩ _ w.heap.size (by have:=blk_lt H.out.blk; show w.heap.size ≠ gp; omega)).trans hHeld.2.1
 ·exact (Below.heap_setCell w4 ⟨gp,18,none⟩ _ (w.heap.size + 1) (by have:=blk_lt H.out.blk; show w.heap.size + 1 ≠ gp; omega)).trans hHeld.2.2
 have HF:=Lib.hid hF
 clear hF hz1 hz2 hHeld
 refine hK.out _ _ ?_
 clear hK K
 refine done_ (by kernel_rfl) ?_
 go_wp2_with (first | ((with_reducible refine gate_dst (N:=31) rfl ?_); (refine wpList_load_row rfl 150 (.tmp 5) rfl (w.heap.size + 1) (by rfl) 150 _ (0,0) _ HF.out.2.2.2.2 Try.underlying150 rfl (by kernel_rfl) ?_)) | ((with_reducible refine gate_ (.store 150 (.tmp 4) (.tmp 31)) rfl ?_); (refine store_row_F rfl rfl 150 (.tmp 4) (.tmp 31) rfl w.heap.size #[.int .i64 f.dst,.int .u32 f.boot,.int .i64 f.p.kind,.int .u32 f.p.mine,.int .u32 f.p.boot,.int .u32 f.p.yours,.int .u32 f.p.seq,.int .u32 f.p.ack,.int .u32 f.p.stamp,.int .u32 f.p.echo,.complex .f64 f.p.zr f.p.zi,.slice Ab f.p.body.length cb] rfl rfl 150 _ HF.out.2.2.2.1 (by kernel_rfl) rfl (by kernel_rfl) ?_); (intro w6 hb6 hat6); (have HB6:=Lib.hid hb6); (have HAT6:=Lib.hid hat6); (clear hb6 hat6)))
 refine bodyPost_ret (v:=.agg #[.int .i64 f.dst,.int .u32 f.boot,.int .i64 f.p.kind,.int .u32 f.p.mine,.int .u32 f.p.boot,.int .u32 f.p.yours,.int .u32 f.p.seq,.int .u32 f.p.ack,.int .u32 f.p.stamp,.int .u32 f.p.echo,.complex .f64 f.p.zr f.p.zi,.slice Ab f.p.body.length cb]) ?_ rfl ?_
 ·exact Go.Proofs.Ytnkkgofpifhoeaa.Pk.results_cell rfl _ _ rfl (run_loadVar_row (P:=Try.prog) w6 w.heap.size 150 150 _ (0,0) _ HB6.out Try.underlying150 rfl (by kernel_rfl))
 ·have hgl:=blk_lt H.out.blk
  have hk6:=HF.out.2.1.then_ (kept_at' HAT6.out) (fun k hk => .inr (by omega))
  refine ⟨.slice Ab f.p.body.length cb,rfl,Kd.R_kept HR.out hk6 (fun k hx hy => H.out.gp0 5 (hy ▸ hx)),⟨_,lv,_,HF.out.1.kept (kept_at' HAT6.out) (by omega) (fun j k hx hy => ?_),Grew.grow _ HBD.out.size,hk6,HAT6.out.below HF.out.2.2.1 H.out.hB⟩⟩
  rcases hx with hx | hx
  ·have:=H.out.lt j k hx; omega
  ·have:=HSZ.out; omega
end Go.Proofs.Ytnkkgofpifhoeaa.Pr
end
section
namespace Go.Proofs.Ytnkkgofpifhoeaa.Pr
open Go.RowKit Go.Proofs.Ytnkkgofpifhoeaa.Base Go.Proofs.Ytnkkgofpifhoeaa.Lk Go.Proofs.Ytnkkgofpifhoeaa.Win Go.Proofs.YtnkkgofpifhoeaaW.PrintWords
theorem out_fine' {w:World} {B g:Nat} {own:Nat → Prop} {L:Lk} (h:Lk.End w B own g L):Calls Try.prog 32 #[.pointer (some ⟨g,0,none⟩)] w fun e w' => ∃ o okx own',e = .returned o ∧ Lk.End w' B own' g (outL L) ∧ (∀ k,own' k → own k ∧ ¬ okx k) ∧ pkt.R 27 w' B okx o L.out ∧ (∀ k,okx k → own k) ∧ Kept w w' (fun k => k = g) ∧ w'.heap.size = w.heap.size ∧ Below B w w' ∧ own g:=by
 obtain ⟨okq,oko,_,o,h,ho⟩:=h
 refine (out_of h).mono fun e w' hq => ⟨o,oko,fun k => own k ∧ ¬ oko k,hq.1,⟨_,_,_,_,hq.2.1,fun k hk => ?_⟩,fun k hk => hk,hq.2.2.1,fun k hk => ho k (.inr (.inl hk)),kept_at' hq.2.2.2,hq.2.2.2.size,hq.2.2.2.below (Below.refl _ _) h.low,ho g (.inr (.inr rfl))⟩
 rcases hk with hk | hk | hk
 ·exact ⟨ho k (.inl hk),h.apart k hk⟩
 ·exact hk.elim
 ·subst hk
  exact ⟨ho _ (.inr (.inr rfl)),fun hx => (h.old _ (.inr hx)).2 rfl⟩
def handed (own:Nat → Nat → Prop) (s:Nat) (own' okx:Nat → Prop):Nat → Nat → Prop:=fun j k => (j = 1 + s ∧ own' k) ∨ (j ≠ 1 + s ∧ own j k) ∨ (j = 5 ∧ okx k)
theorem PAt.took {w w':World} {B gp:Nat} {ge:Nat → Nat} {own:Nat → Nat → Prop} {X:Pr} {lv:Nat → Value} {wv:Value} (h:PAt w B gp ge own X lv wv) {s:Nat} (hs:s < 2) {own' okx:Nat → Prop} (he:Lk.End w' B own' (ge s) (outL (X.sd s).end_)) (ho:∀ k,own' k → own (1 + s) k ∧ ¬ okx k)
  (hx:∀ k,okx k → own (1 + s) k) (hk:Kept w w' (fun k => k = ge s)) (hg:own (1 + s) (ge s)) (hz:w'.heap.size = w.heap.size):PAt w' B gp ge (handed own s own' okx) (X.set s { X.sd s with end_:=outL (X.sd s).end_ }) lv wv:=by
 have hrow:prow (X.set s { X.sd s with end_:=outL (X.sd s).end_ }) ge lv wv = prow X ge lv wv:=by
  have h0:s = 0 ∨ s = 1:=by omega
  rcases h0 with rfl | rfl <;> rfl
 have hne:∀ j k,j ≠ 1 + s → own j k → ¬ k = ge s:=fun j k hj ho he => hj (h.disj j (1 + s) k ho (he ▸ hg))
 refine ⟨hrow ▸ blk_kept h.blk hk (fun he => h.gp0 (1 + s) (he ▸ hg)),h.low,fun i hi => ?_,fun i j k hi hj => ?_,fun i k hi => ?_,fun t ht => ?_,fun t ht => ?_,?_⟩
 ·rcases hi with hi | hi | hi
  ·exact h.gp0 _ (ho _ hi.2).1
  ·exact h.gp0 _ hi.2
  ·exact h.gp0 _ (hx _ hi.2)
 ·rcases hi with hi | hi | hi <;> rcases hj with hj | hj | hj
  ·omega
  ·exact absurd (h.disj _ _ k (ho k hi.2).1 hj.2) (by omega)
  ·exact absurd hj.2 (ho k hi.2).2
  ·exact absurd (h.disj _ _ k hi.2 (ho k hj.2).1) (by omega)
  ·exact h.disj _ _ k hi.2 hj.2
  ·exact absurd (h.disj _ _ k hi.2 (hx k hj.2)) (by omega)
  ·exact absurd hi.2 (ho k hj.2).2
  ·exact absurd (h.disj _ _ k (hx k hi.2) hj.2) (by omega)
  ·omega
 ·rw [hz]
  rcases hi with hi | hi | hi
  ·exact h.lt _ k (ho k hi.2).1
  ·exact h.lt _ k hi.2
  ·exact h.lt _ k (hx k hi.2)
 ·by_cases hts:t = s
  ·subst hts
   rw [Pr.set_eq]
   exact he.mono (fun k hk => .inl ⟨rfl,hk⟩)
  ·rw [Pr.set_ne X hts]
   exact ((h.e t ht).kept hk (hne _ · (by omega))).mono (fun k hk => .inr (.inl ⟨by omega,hk⟩))
 ·have:((X.set s { X.sd s with end_:=outL (X.sd s).end_ }).sd t).log = (X.sd t).log:=by
   by_cases hts:t = s
   ·subst hts; rw [Pr.set_eq]
   ·rw [Pr.set_ne X hts]
  rw [this]
  exact Kd.R_mono (Kd.R_kept (h.l t ht) hk (hne _ · (by omega))) (fun k hk => .inr (.inl ⟨by omega,hk⟩))
 ·exact (h.way.kept hk (hne _ · (by omega))).mono (fun k hk => .inr (.inl ⟨by omega,hk⟩))
end Go.Proofs.Ytnkkgofpifhoeaa.Pr
end
section
namespace Go.Proofs.Ytnkkgofpifhoeaa.Pr
open Go.RowKit Go.Proofs.Ytnkkgofpifhoeaa.Base Go.Proofs.Ytnkkgofpifhoeaa.Steps Go.Proofs.Ytnkkgofpifhoeaa.Lk Go.Proofs.Ytnkkgofpifhoeaa.Win Go.Proofs.YtnkkgofpifhoeaaW.PrintWords Go.Proofs.YtnkkgofpifhoeaaW.PrintLast
def Whole (w:World) (B gp:Nat) (U:Nat → Prop) (X:Pr):Prop:=∃ ge own lv wv,PAt w B gp ge own X lv wv ∧ ∀ i k,own i k → U k
def newer (U:Nat → Prop) (w:World):Nat → Prop:=fun k => U k ∨ w.heap.size ≤ k
def WTurn (w:World) (B gp:Nat) (U:Nat → Prop) (X:Pr) (w':World):Prop:=Whole w' B gp (newer U w) X ∧ Kept w w' (fun k => k = gp ∨ U k) ∧ Below B w w'
theorem Moves.whole {w w':World} {B gp:Nat} {ge:Nat → Nat} {own:Nat → Nat → Prop} {X:Pr} {S U:Nat → Prop} (hU:∀ i k,own i k → U k) (hS:∀ k,S k → k = gp ∨ U k) (h:Moves w B gp ge own X S w'):WTurn w B gp U X w':=by
 obtain ⟨own',lv,wv,hP,hg,hk,hb⟩:=h
 exact ⟨⟨ge,own',lv,wv,hP,fun i k hx => (hg.2 i k hx).elim (fun y => .inl (hU i k y)) .inr⟩,hk.mono hS,hb⟩
theorem Whole.hB {w:World} {B gp:Nat} {U:Nat → Prop} {X:Pr} (h:Whole w B gp U X):B ≤ w.heap.size:=by
 obtain ⟨_,_,_,_,hP,_⟩:=h
 exact hP.hB
theorem Whole.sub {w w1:World} {B gp:Nat} {U:Nat → Prop} {X:Pr} (h:Whole w B gp U X) (hb:Below w.heap.size w w1):Whole w1 B gp U X:=by
 obtain ⟨ge,own,lv,wv,hP,hU⟩:=h
 exact ⟨ge,own,lv,wv,hP.sub hb,hU⟩
theorem Whole.mono {w:World} {B gp:Nat} {U U':Nat → Prop} {X:Pr} (h:Whole w B gp U X) (hu:∀ k,U k → U' k):Whole w B gp U' X:=by
 obtain ⟨ge,own,lv,wv,hP,hU⟩:=h
 exact ⟨ge,own,lv,wv,hP,fun i k hx => hu k (hU i k hx)⟩
theorem WTurn.from_ {w w1 w':World} {B gp:Nat} {U:Nat → Prop} {X:Pr} (hB:B ≤ w.heap.size) (hb:Below w.heap.size w w1) (h:WTurn w1 B gp U X w'):WTurn w B gp U X w' :=
 ⟨h.1.mono (fun k hk => hk.elim .inl (fun y => .inr (Nat.le_trans hb.size y))),(Kept.of_below hb _).then_ h.2.1 (fun k hk => .inl hk),(hb.mono hB).trans h.2.2⟩
def putsX (X:Pr) (s b:Int) (ps:List Pkt):Pr:=ps.foldl (fun Y p => putX Y ⟨1 - s,b,p⟩) X
theorem putX_sd (X:Pr) (f:Fl):(putX X f).sd = X.sd:=by unfold putX; split <;> rfl
theorem putX_way (X:Pr) (f:Fl) (h:X.way.length ≤ 1024):(putX X f).way.length ≤ 1024:=by
 unfold putX
 split
 ·rw [List.length_append]; simp only [List.length_singleton]; omega
 ·exact h
theorem putsX_sd (s b:Int) (ps:List Pkt):∀ X:Pr,(putsX X s b ps).sd = X.sd:=by
 induction ps with
 | nil => exact fun _ => rfl
 | cons p ps ih => exact fun X => (ih (putX X ⟨1 - s,b,p⟩)).trans (putX_sd X _)
theorem putsX_way (s b:Int) (ps:List Pkt):∀ X:Pr,X.way.length ≤ 1024 → (putsX X s b ps).way.length ≤ 1024:=by
 induction ps with
 | nil => exact fun _ h => h
 | cons p ps ih => exact fun X h => ih _ (putX_way X _ h)
theorem putsX_take (X:Pr) (s b:Int) (ps:List Pkt) (i:Nat) (hi:i < ps.length):putsX X s b (ps.take (i + 1)) = putX (putsX X s b (ps.take i)) ⟨1 - s,b,ps.getD i nilP⟩:=by
 unfold putsX
 rw [List.take_add_one,List.foldl_append,List.getElem?_eq_getElem hi,List.getD_eq_getElem?_getD,List.getElem?_eq_getElem hi]
 rfl
def pumpX (X:Pr) (s:Nat):Pr:=putsX (X.set s { X.sd s with end_:=outL (X.sd s).end_ }) s (X.sd s).boot (X.sd s).end_.out
def PL (w:World) (B gp:Nat) (U:Nat → Prop) (X:Pr) (s:Nat) (b:Int) (o:Value) (ps:List Pkt) (j:Nat) (wr:World):Prop :=
 ∃ ge own lv wv okx,PAt wr B gp ge own (putsX X s b (ps.take j)) lv wv ∧ (∀ i k,own i k → newer U w k) ∧ (∀ k,okx k → own 5 k) ∧ pkt.R 27 wr B okx o ps ∧ Kept w wr (fun k => k = gp ∨ U k) ∧ Below B w wr
theorem PL.size {w wr:World} {B gp s j:Nat} {U:Nat → Prop} {X:Pr} {b:Int} {o:Value} {ps:List Pkt} (h:PL w B gp U X s b o ps j wr):w.heap.size ≤ wr.heap.size:=by
 obtain ⟨_,_,_,_,_,_,_,_,_,hk,_⟩:=h
 exact hk.1
theorem pkt_typed {w:World} {B:Nat} {ok:Nat → Prop} {o:Value} {ps:List Pkt} (h:pkt.R 27 w B ok o ps):pkt.R 27 w B (fun k => ok k ∧ ¬ ∃ cells,w.heap[k]? = some (.cells cells 150 (0,0))) o ps:=by
 refine Kd.R_mono (Kd.R_bound h) (fun k hk => ⟨hk.1,?_⟩)
 obtain ⟨_,_,_,q,hq,cells',hc⟩:=hk
 rintro ⟨cells,hx⟩
 rw [hc] at hx
 injection hx with hx
 injection hx with _ hx _
 subst hx
 exact absurd hq (by decide)
theorem PL.step {w wr w1 w':World} {B gp s j:Nat} {U okx:Nat → Prop} {X:Pr} {b:Int} {o:Value} {ps:List Pkt} {ge:Nat → Nat} {own:Nat → Nat → Prop} {lv:Nat → Value} {wv:Value} (hj:j < ps.length)
  (hP:PAt wr B gp ge own (putsX X s b (ps.take j)) lv wv) (hU:∀ i k,own i k → newer U w k) (hx:∀ k,okx k → own 5 k) (hR:pkt.R 27 wr B okx o ps) (hk:Kept w wr (fun k => k = gp ∨ U k)) (hb:Below B w wr) (h1:Below wr.heap.size wr w1)
  (hM:Moves w1 B gp ge own (putX (putsX X s b (ps.take j)) ⟨1 - s,b,ps.getD j nilP⟩) (fun k => k = gp ∨ own 5 k ∧ ∃ cells,w1.heap[k]? = some (.cells cells 150 (0,0))) w'):PL w B gp U X s b o ps (j + 1) w':=by
 obtain ⟨own',lv',wv',hP',hg,hk',hb'⟩:=hM
 have hs:=hk.1
 have hs1:=h1.size
 refine ⟨ge,own',lv',wv',fun k => okx k,by rw [putsX_take X s b ps j hj]; exact hP',fun i k hi => (hg.2 i k hi).elim (hU i k) (fun y => .inr (by omega)),fun k hk => hg.1 5 k (hx k hk),?_,?_,?_⟩
 ·exact Kd.R_mono (Kd.R_kept (pkt_typed (Kd.R_below hR h1)) hk' (fun k hk hS => by
   rcases hS with hS | hS
   ·exact hP.gp0 5 (hS ▸ hx k hk.1)
   ·exact hk.2 hS.2)) (fun k hk => hk.1)
 ·exact (hk.below h1).then_ hk' (fun k hS => by
   rcases hS with hS | hS
   ·exact .inl (.inl hS)
   ·rcases hU 5 k hS.1 with hu | hu
    ·exact .inl (.inr hu)
    ·exact .inr hu)
 ·exact (hb.trans (h1.mono hP.hB)).trans hb'
theorem PL.start {w wr w':World} {B gp s:Nat} {U own' okx:Nat → Prop} {X:Pr} {o:Value} {ge:Nat → Nat} {own:Nat → Nat → Prop} {lv:Nat → Value} {wv:Value} (hs:s < 2) (hP:PAt wr B gp ge own X lv wv) (hU:∀ i k,own i k → newer U w k) (hk:Kept w wr (fun k => k = gp ∨ U k)) (hb:Below B w wr)
  (he:Lk.End w' B own' (ge s) (outL (X.sd s).end_)) (ho:∀ k,own' k → own (1 + s) k ∧ ¬ okx k) (hR:pkt.R 27 w' B okx o (X.sd s).end_.out) (hx:∀ k,okx k → own (1 + s) k) (hkp:Kept wr w' (fun k => k = ge s)) (hz:w'.heap.size = wr.heap.size) (hb':Below B wr w') (hg:own (1 + s) (ge s)) :
  PL w B gp U (X.set s { X.sd s with end_:=outL (X.sd s).end_ }) s (X.sd s).boot o (X.sd s).end_.out 0 w':=by
 refine ⟨ge,handed own s own' okx,lv,wv,okx,hP.took hs he ho hx hkp hg hz,fun i k hi => ?_,fun k hk => .inr (.inr ⟨rfl,hk⟩),hR,hk.then_ hkp (fun k hS => ?_),hb.trans hb'⟩
 ·rcases hi with hi | hi | hi
  ·exact hU _ k (ho k hi.2).1
  ·exact hU _ k hi.2
  ·exact hU _ k (hx k hi.2)
 ·subst hS
  rcases hU _ _ hg with hu | hu
  ·exact .inl (.inr hu)
  ·exact .inr hu
theorem PL.end_ {w wr:World} {B gp s:Nat} {U:Nat → Prop} {X:Pr} {b:Int} {o:Value} {ps:List Pkt} (h:PL w B gp U X s b o ps ps.length wr):WTurn w B gp U (putsX X s b ps) wr:=by
 obtain ⟨ge,own,lv,wv,okx,hP,hU,_,_,hk,hb⟩:=h
 rw [List.take_of_length_le (Nat.le_refl _)] at hP
 exact ⟨⟨ge,own,lv,wv,hP,hU⟩,hk,hb⟩
end Go.Proofs.Ytnkkgofpifhoeaa.Pr
end
section
namespace Go.Proofs.Ytnkkgofpifhoeaa.Pr
open Go.RowKit Go.Proofs.Ytnkkgofpifhoeaa.Base Go.Proofs.Ytnkkgofpifhoeaa.Steps Go.Proofs.Ytnkkgofpifhoeaa.Lk Go.Proofs.Ytnkkgofpifhoeaa.Win Go.Proofs.YtnkkgofpifhoeaaW.PrintWords Go.Proofs.YtnkkgofpifhoeaaW.PrintLast
def endF (d:Sd) (L:Lk):Sd:={ d with end_:=L }
set_option maxRecDepth 100000 in
set_option maxHeartbeats 2000000 in
theorem open_0 {w:World} {B gp:Nat} {ge:Nat → Nat} {own:Nat → Nat → Prop} {X:Pr} {lv:Nat → Value} {wv:Value} (h:PAt w B gp ge own X lv wv) (hok:(X.sd 0).end_.Ok) (kind i:Int) (vb:Value) :
  Calls Try.prog 107 #[.pointer (some ⟨gp,0,none⟩),.agg #[.int .i64 kind,.int .i64 0,.int .i64 i,vb]] w fun e w' => e = .returned (.int .i64 (openE (X.sd 0).end_)) ∧ Moves w B gp ge own (X.set 0 (endF (X.sd 0) (openL (X.sd 0).end_))) (own 1) w':=by
 have hba:Below w.heap.size w (w.alloc (.cells #[.int .i64 kind,.int .i64 0,.int .i64 i,vb] 72)):=(Below.refl _ _).alloc (Nat.le_refl _) _
 have H:=Lib.hid h
 have OK:=Lib.hid hok
 have hSS:(w.alloc (.cells #[.int .i64 kind,.int .i64 0,.int .i64 i,vb] 72)).drew.heap[gp]? = some (.cells (prow X ge lv wv) 143 (0,0)) ∧ (w.alloc (.cells #[.int .i64 kind,.int .i64 0,.int .i64 i,vb] 72)).drew.heap[w.heap.size]? = some (.cells #[.int .i64 kind,.int .i64 0,.int .i64 i,vb] 72 (0,0)):=⟨(h.sub (bl_drew hba)).blk,heap_alloc_new w _⟩
 have hbd:=bl_drew hba
 have HSS:=Lib.hid hSS
 have HBD0:=Lib.hid hbd
 clear h hok hba hSS hbd
 go_enter Try.func107,Try.ntmps107
 go_wp2_with fail
 have hSS:=HSS.out
 have hbd:=HBD0.out
 clear HSS HBD0
 refine start_ (n:=10) (S:=fun w' => w'.heap[gp]? = some (.cells (prow X ge lv wv) 143 (0,0)) ∧ w'.heap[w.heap.size]? = some (.cells #[.int .i64 kind,.int .i64 0,.int .i64 i,vb] 72 (0,0))) (ds:=[]) M1W (by kernel_rfl) rfl rfl (hSS) (fun hHeld => ?_)
 generalize (w.alloc (.cells #[.int .i64 kind,.int .i64 0,.int .i64 i,vb] 72)).drew = w2 at hbd hHeld ⊢
 have HBD:=Lib.hid hbd
 clear hbd
 refine pure_ (i:=0) (N:=some 5) (v:=?_) (a':=?_) M21 rfl rfl (by kernel_rfl) (fun _ _ _ h => h) (Or.inl ⟨by rfl,?_⟩) ?_ ?_
 rotate_left
 ·intro w'
  go_simp
  with_reducible rfl
 rotate_left
 ·simp only [Act.put,sA,sZ,sS]
  rfl
 refine pure_ (i:=1) (N:=some 6) (v:=?_) (a':=?_) M26 rfl rfl (by kernel_rfl) (fun _ _ _ h => h) (Or.inl ⟨by rfl,?_⟩) ?_ ?_
 rotate_left
 ·intro w'
  go_simp
  with_reducible rfl
 rotate_left
 ·simp only [Act.put,sA,sZ,sS]
  rfl
 refine take_ (i:=2) (N:=some 7) (v:=?_) (a':=?_) M29 rfl rfl (by kernel_rfl) (fun _ _ _ h => h) (Or.inl ⟨by rfl,?_⟩) hHeld ?_ ?_
 rotate_left
 ·intro w' s0
  have hc1:w'.cell? ⟨w.heap.size,1,none⟩ = some (.int .i64 0):=(blk_cell s0.2 1).trans rfl
  clear s0
  go_simp
  with_reducible rfl
 rotate_left
 ·simp only [Act.put,sA,sZ,sS]
  rfl
 refine pure_ (i:=3) (N:=some 8) (v:=?_) (a':=?_) M2b rfl rfl (by kernel_rfl) (fun _ _ _ h => h) (Or.inl ⟨by rfl,?_⟩) ?_ ?_
 rotate_left
 ·intro w'
  go_simp
  with_reducible rfl
 rotate_left
 ·simp only [Act.put,sA,sZ,sS]
  rfl
 refine pure_ (i:=4) (N:=some 9) (v:=?_) (a':=?_) M2e rfl rfl (by kernel_rfl) (fun _ _ _ h => h) (Or.inl ⟨by rfl,?_⟩) ?_ ?_
 rotate_left
 ·intro w'
  go_simp
  with_reducible rfl
 rotate_left
 ·simp only [Act.put,sA,sZ,sS]
  rfl
 refine pure_ (i:=5) (N:=some 10) (v:=?_) (a':=?_) M2j rfl rfl (by kernel_rfl) (fun _ _ _ h => h) (Or.inl ⟨by rfl,?_⟩) ?_ ?_
 rotate_left
 ·intro w'
  go_simp
  rfl
 rotate_left
 ·simp only [Act.put,sA,sZ,sS]
  rfl
 refine pure_ (i:=6) (N:=some 11) (v:=?_) (a':=?_) M2m rfl rfl (by kernel_rfl) (fun _ _ _ h => h) (Or.inl ⟨by rfl,?_⟩) ?_ ?_
 rotate_left
 ·intro w'
  go_simp
  with_reducible rfl
 rotate_left
 ·simp only [Act.put,sA,sZ,sS]
  rfl
 refine take_ (i:=7) (N:=some 12) (v:=?_) (a':=?_) M2p rfl rfl (by kernel_rfl) (fun _ _ _ h => h) (Or.inl ⟨by rfl,?_⟩) hHeld ?_ ?_
 rotate_left
 ·intro w' s0
  have hc2:w'.cell? ⟨gp,0,none⟩ = some (.pointer (some ⟨ge 0,0,none⟩)):=(blk_cell s0.1 0).trans rfl
  clear s0
  go_simp
  rfl
 rotate_left
 ·simp only [Act.put,sA,sZ,sS]
  rfl
 refine one_ (i:=8) (N:=some 13) M2s rfl rfl (by kernel_rfl) (by decide) (fun K hK => ?_)
 have hQ2:=H.out.sub HBD.out
 refine goes_ Try.func27 (by kernel_rfl) rfl #[.pointer (some ⟨ge 0,0,none⟩)] (by rfl) rfl rfl (by (try simp only [List.map_toArray,List.map_cons,List.map_nil]); first | done | rfl) ?_
 refine (open_end (hQ2.e 0 (by decide)) hQ2.hB OK.out).mono ?_
 rintro e w3 ⟨rfl,ht⟩
 refine ⟨_,rfl,?_⟩
 have hT:=hQ2.turn (s:=0) (by decide) ht
 have HT:=Lib.hid (⟨_,lv,wv,hT,Grew.grow _ HBD.out.size,(Kept.of_below HBD.out _).then_ ht.2.1 (fun k hk => .inl hk),(HBD.out.mono H.out.hB).trans ht.2.2⟩:Moves w B gp ge own (X.set 0 (endF (X.sd 0) (openL (X.sd 0).end_))) (own 1) w3)
 have hS3:w3.heap[gp]? = some (.cells (prow X ge lv wv) 143 (0,0)) ∧ w3.heap[w.heap.size]? = some (.cells #[.int .i64 kind,.int .i64 0,.int .i64 i,vb] 72 (0,0)):=⟨blk_kept hHeld.1 ht.2.1 (H.out.gp0 _),blk_kept hHeld.2 ht.2.1 (fun hx => by have:=H.out.lt _ _ hx; omega)⟩
 clear hT ht hQ2 hHeld
 refine hK.out _ _ hS3 (fun hHeld => ?_)
 clear hK K hS3
 refine norm_ (a':=?_) ?_ ?_
 rotate_left
 ·show Act.put _ (some 13) _ = _
  simp only [Act.put,sA,sZ,sS]
  rfl
 refine pure_ (i:=9) (N:=some 4) (v:=?_) (a':=?_) M2w rfl rfl (by kernel_rfl) (fun _ _ _ h => h) (Or.inl ⟨by rfl,?_⟩) ?_ ?_
 rotate_left
 ·intro w'
  go_simp
  with_reducible rfl
 rotate_left
 ·simp only [Act.put,sA,sZ,sS]
  rfl
 refine done_ (by kernel_rfl) ?_
 clear hHeld
 go_wp2_with fail
 all_goals (go_ret; exact ⟨rfl,HT.out⟩)
set_option maxRecDepth 100000 in
set_option maxHeartbeats 2000000 in
theorem tick_0 {w:World} {B gp:Nat} {ge:Nat → Nat} {own:Nat → Nat → Prop} {X:Pr} {lv:Nat → Value} {wv:Value} (h:PAt w B gp ge own X lv wv) (hok:(X.sd 0).end_.Ok) (kind i:Int) (vb:Value) :
  Calls Try.prog 110 #[.pointer (some ⟨gp,0,none⟩),.agg #[.int .i64 kind,.int .i64 0,.int .i64 i,vb]] w fun e w' => e = .returned (.int .i64 0) ∧ Moves w B gp ge own (X.set 0 (endF (X.sd 0) (tick_ (X.sd 0).end_))) (own 1) w':=by
 have hba:Below w.heap.size w (w.alloc (.cells #[.int .i64 kind,.int .i64 0,.int .i64 i,vb] 72)):=(Below.refl _ _).alloc (Nat.le_refl _) _
 have H:=Lib.hid h
 have OK:=Lib.hid hok
 have hSS:(w.alloc (.cells #[.int .i64 kind,.int .i64 0,.int .i64 i,vb] 72)).drew.heap[gp]? = some (.cells (prow X ge lv wv) 143 (0,0)) ∧ (w.alloc (.cells #[.int .i64 kind,.int .i64 0,.int .i64 i,vb] 72)).drew.heap[w.heap.size]? = some (.cells #[.int .i64 kind,.int .i64 0,.int .i64 i,vb] 72 (0,0)):=⟨(h.sub (bl_drew hba)).blk,heap_alloc_new w _⟩
 have hbd:=bl_drew hba
 have HSS:=Lib.hid hSS
 have HBD0:=Lib.hid hbd
 clear h hok hba hSS hbd
 go_enter Try.func110,Try.ntmps110
 go_wp2_with fail
 have hSS:=HSS.out
 have hbd:=HBD0.out
 clear HSS HBD0
 refine start_ (n:=9) (S:=fun w' => w'.heap[gp]? = some (.cells (prow X ge lv wv) 143 (0,0)) ∧ w'.heap[w.heap.size]? = some (.cells #[.int .i64 kind,.int .i64 0,.int .i64 i,vb] 72 (0,0))) (ds:=[]) M0L (by kernel_rfl) rfl rfl (hSS) (fun hHeld => ?_)
 generalize (w.alloc (.cells #[.int .i64 kind,.int .i64 0,.int .i64 i,vb] 72)).drew = w2 at hbd hHeld ⊢
 have HBD:=Lib.hid hbd
 clear hbd
 refine pure_ (i:=0) (N:=some 5) (v:=?_) (a':=?_) M2M rfl rfl (by kernel_rfl) (fun _ _ _ h => h) (Or.inl ⟨by rfl,?_⟩) ?_ ?_
 rotate_left
 ·intro w'
  go_simp
  with_reducible rfl
 rotate_left
 ·simp only [Act.put,sA,sZ,sS]
  rfl
 refine pure_ (i:=1) (N:=some 6) (v:=?_) (a':=?_) M2N rfl rfl (by kernel_rfl) (fun _ _ _ h => h) (Or.inl ⟨by rfl,?_⟩) ?_ ?_
 rotate_left
 ·intro w'
  go_simp
  with_reducible rfl
 rotate_left
 ·simp only [Act.put,sA,sZ,sS]
  rfl
 refine take_ (i:=2) (N:=some 7) (v:=?_) (a':=?_) M0Q rfl rfl (by kernel_rfl) (fun _ _ _ h => h) (Or.inl ⟨by rfl,?_⟩) hHeld ?_ ?_
 rotate_left
 ·intro w' s0
  have hc1:w'.cell? ⟨w.heap.size,1,none⟩ = some (.int .i64 0):=(blk_cell s0.2 1).trans rfl
  clear s0
  go_simp
  with_reducible rfl
 rotate_left
 ·simp only [Act.put,sA,sZ,sS]
  rfl
 refine pure_ (i:=3) (N:=some 8) (v:=?_) (a':=?_) M0S rfl rfl (by kernel_rfl) (fun _ _ _ h => h) (Or.inl ⟨by rfl,?_⟩) ?_ ?_
 rotate_left
 ·intro w'
  go_simp
  with_reducible rfl
 rotate_left
 ·simp only [Act.put,sA,sZ,sS]
  rfl
 refine pure_ (i:=4) (N:=some 9) (v:=?_) (a':=?_) M0V rfl rfl (by kernel_rfl) (fun _ _ _ h => h) (Or.inl ⟨by rfl,?_⟩) ?_ ?_
 rotate_left
 ·intro w'
  go_simp
  with_reducible rfl
 rotate_left
 ·simp only [Act.put,sA,sZ,sS]
  rfl
 refine pure_ (i:=5) (N:=some 10) (v:=?_) (a':=?_) M0X rfl rfl (by kernel_rfl) (fun _ _ _ h => h) (Or.inl ⟨by rfl,?_⟩) ?_ ?_
 rotate_left
 ·intro w'
  go_simp
  rfl
 rotate_left
 ·simp only [Act.put,sA,sZ,sS]
  rfl
 refine pure_ (i:=6) (N:=some 11) (v:=?_) (a':=?_) M10 rfl rfl (by kernel_rfl) (fun _ _ _ h => h) (Or.inl ⟨by rfl,?_⟩) ?_ ?_
 rotate_left
 ·intro w'
  go_simp
  with_reducible rfl
 rotate_left
 ·simp only [Act.put,sA,sZ,sS]
  rfl
 refine take_ (i:=7) (N:=some 12) (v:=?_) (a':=?_) M11 rfl rfl (by kernel_rfl) (fun _ _ _ h => h) (Or.inl ⟨by rfl,?_⟩) hHeld ?_ ?_
 rotate_left
 ·intro w' s0
  have hc2:w'.cell? ⟨gp,0,none⟩ = some (.pointer (some ⟨ge 0,0,none⟩)):=(blk_cell s0.1 0).trans rfl
  clear s0
  go_simp
  rfl
 rotate_left
 ·simp only [Act.put,sA,sZ,sS]
  rfl
 refine one_ (i:=8) (N:=some 13) M12 rfl rfl (by kernel_rfl) (by decide) (fun K hK => ?_)
 have hQ2:=H.out.sub HBD.out
 refine goes_ Try.func33 (by kernel_rfl) rfl #[.pointer (some ⟨ge 0,0,none⟩)] (by rfl) rfl rfl (by (try simp only [List.map_toArray,List.map_cons,List.map_nil]); first | done | rfl) ?_
 refine (tick_of (hQ2.e 0 (by decide)) OK.out hQ2.hB).mono ?_
 rintro e w3 ⟨rfl,ht⟩
 refine ⟨_,rfl,?_⟩
 have hT:=hQ2.turn (s:=0) (by decide) ht
 have HT:=Lib.hid (⟨_,lv,wv,hT,Grew.grow _ HBD.out.size,(Kept.of_below HBD.out _).then_ ht.2.1 (fun k hk => .inl hk),(HBD.out.mono H.out.hB).trans ht.2.2⟩:Moves w B gp ge own (X.set 0 (endF (X.sd 0) (tick_ (X.sd 0).end_))) (own 1) w3)
 have hS3:w3.heap[gp]? = some (.cells (prow X ge lv wv) 143 (0,0)) ∧ w3.heap[w.heap.size]? = some (.cells #[.int .i64 kind,.int .i64 0,.int .i64 i,vb] 72 (0,0)):=⟨blk_kept hHeld.1 ht.2.1 (H.out.gp0 _),blk_kept hHeld.2 ht.2.1 (fun hx => by have:=H.out.lt _ _ hx; omega)⟩
 clear hT ht hQ2 hHeld
 refine hK.out _ _ hS3 (fun hHeld => ?_)
 clear hK K hS3
 refine norm_ (a':=?_) ?_ ?_
 rotate_left
 ·show Act.put _ (some 13) _ = _
  simp only [Act.put,sA,sZ,sS]
  rfl
 refine done_ (by kernel_rfl) ?_
 clear hHeld
 go_wp2_with fail
 all_goals (go_ret; exact ⟨rfl,HT.out⟩)
set_option maxRecDepth 100000 in
set_option maxHeartbeats 2000000 in
theorem open_1 {w:World} {B gp:Nat} {ge:Nat → Nat} {own:Nat → Nat → Prop} {X:Pr} {lv:Nat → Value} {wv:Value} (h:PAt w B gp ge own X lv wv) (hok:(X.sd 1).end_.Ok) (kind i:Int) (vb:Value) :
  Calls Try.prog 107 #[.pointer (some ⟨gp,0,none⟩),.agg #[.int .i64 kind,.int .i64 1,.int .i64 i,vb]] w fun e w' => e = .returned (.int .i64 (openE (X.sd 1).end_)) ∧ Moves w B gp ge own (X.set 1 (endF (X.sd 1) (openL (X.sd 1).end_))) (own 2) w':=by
 have hba:Below w.heap.size w (w.alloc (.cells #[.int .i64 kind,.int .i64 1,.int .i64 i,vb] 72)):=(Below.refl _ _).alloc (Nat.le_refl _) _
 have H:=Lib.hid h
 have OK:=Lib.hid hok
 have hSS:(w.alloc (.cells #[.int .i64 kind,.int .i64 1,.int .i64 i,vb] 72)).drew.heap[gp]? = some (.cells (prow X ge lv wv) 143 (0,0)) ∧ (w.alloc (.cells #[.int .i64 kind,.int .i64 1,.int .i64 i,vb] 72)).drew.heap[w.heap.size]? = some (.cells #[.int .i64 kind,.int .i64 1,.int .i64 i,vb] 72 (0,0)):=⟨(h.sub (bl_drew hba)).blk,heap_alloc_new w _⟩
 have hbd:=bl_drew hba
 have HSS:=Lib.hid hSS
 have HBD0:=Lib.hid hbd
 clear h hok hba hSS hbd
 go_enter Try.func107,Try.ntmps107
 go_wp2_with fail
 have hSS:=HSS.out
 have hbd:=HBD0.out
 clear HSS HBD0
 refine start_ (n:=10) (S:=fun w' => w'.heap[gp]? = some (.cells (prow X ge lv wv) 143 (0,0)) ∧ w'.heap[w.heap.size]? = some (.cells #[.int .i64 kind,.int .i64 1,.int .i64 i,vb] 72 (0,0))) (ds:=[]) M1W (by kernel_rfl) rfl rfl (hSS) (fun hHeld => ?_)
 generalize (w.alloc (.cells #[.int .i64 kind,.int .i64 1,.int .i64 i,vb] 72)).drew = w2 at hbd hHeld ⊢
 have HBD:=Lib.hid hbd
 clear hbd
 refine pure_ (i:=0) (N:=some 5) (v:=?_) (a':=?_) M21 rfl rfl (by kernel_rfl) (fun _ _ _ h => h) (Or.inl ⟨by rfl,?_⟩) ?_ ?_
 rotate_left
 ·intro w'
  go_simp
  with_reducible rfl
 rotate_left
 ·simp only [Act.put,sA,sZ,sS]
  rfl
 refine pure_ (i:=1) (N:=some 6) (v:=?_) (a':=?_) M26 rfl rfl (by kernel_rfl) (fun _ _ _ h => h) (Or.inl ⟨by rfl,?_⟩) ?_ ?_
 rotate_left
 ·intro w'
  go_simp
  with_reducible rfl
 rotate_left
 ·simp only [Act.put,sA,sZ,sS]
  rfl
 refine take_ (i:=2) (N:=some 7) (v:=?_) (a':=?_) M29 rfl rfl (by kernel_rfl) (fun _ _ _ h => h) (Or.inl ⟨by rfl,?_⟩) hHeld ?_ ?_
 rotate_left
 ·intro w' s0
  have hc1:w'.cell? ⟨w.heap.size,1,none⟩ = some (.int .i64 1):=(blk_cell s0.2 1).trans rfl
  clear s0
  go_simp
  with_reducible rfl
 rotate_left
 ·simp only [Act.put,sA,sZ,sS]
  rfl
 refine pure_ (i:=3) (N:=some 8) (v:=?_) (a':=?_) M2b rfl rfl (by kernel_rfl) (fun _ _ _ h => h) (Or.inl ⟨by rfl,?_⟩) ?_ ?_
 rotate_left
 ·intro w'
  go_simp
  with_reducible rfl
 rotate_left
 ·simp only [Act.put,sA,sZ,sS]
  rfl
 refine pure_ (i:=4) (N:=some 9) (v:=?_) (a':=?_) M2e rfl rfl (by kernel_rfl) (fun _ _ _ h => h) (Or.inl ⟨by rfl,?_⟩) ?_ ?_
 rotate_left
 ·intro w'
  go_simp
  with_reducible rfl
 rotate_left
 ·simp only [Act.put,sA,sZ,sS]
  rfl
 refine pure_ (i:=5) (N:=some 10) (v:=?_) (a':=?_) M2j rfl rfl (by kernel_rfl) (fun _ _ _ h => h) (Or.inl ⟨by rfl,?_⟩) ?_ ?_
 rotate_left
 ·intro w'
  go_simp
  rfl
 rotate_left
 ·simp only [Act.put,sA,sZ,sS]
  rfl
 refine pure_ (i:=6) (N:=some 11) (v:=?_) (a':=?_) M2m rfl rfl (by kernel_rfl) (fun _ _ _ h => h) (Or.inl ⟨by rfl,?_⟩) ?_ ?_
 rotate_left
 ·intro w'
  go_simp
  with_reducible rfl
 rotate_left
 ·simp only [Act.put,sA,sZ,sS]
  rfl
 refine take_ (i:=7) (N:=some 12) (v:=?_) (a':=?_) M2p rfl rfl (by kernel_rfl) (fun _ _ _ h => h) (Or.inl ⟨by rfl,?_⟩) hHeld ?_ ?_
 rotate_left
 ·intro w' s0
  have hc2:w'.cell? ⟨gp,9,none⟩ = some (.pointer (some ⟨ge 1,0,none⟩)):=(blk_cell s0.1 9).trans rfl
  clear s0
  go_simp
  rfl
 rotate_left
 ·simp only [Act.put,sA,sZ,sS]
  rfl
 refine one_ (i:=8) (N:=some 13) M2s rfl rfl (by kernel_rfl) (by decide) (fun K hK => ?_)
 have hQ2:=H.out.sub HBD.out
 refine goes_ Try.func27 (by kernel_rfl) rfl #[.pointer (some ⟨ge 1,0,none⟩)] (by rfl) rfl rfl (by (try simp only [List.map_toArray,List.map_cons,List.map_nil]); first | done | rfl) ?_
 refine (open_end (hQ2.e 1 (by decide)) hQ2.hB OK.out).mono ?_
 rintro e w3 ⟨rfl,ht⟩
 refine ⟨_,rfl,?_⟩
 have hT:=hQ2.turn (s:=1) (by decide) ht
 have HT:=Lib.hid (⟨_,lv,wv,hT,Grew.grow _ HBD.out.size,(Kept.of_below HBD.out _).then_ ht.2.1 (fun k hk => .inl hk),(HBD.out.mono H.out.hB).trans ht.2.2⟩:Moves w B gp ge own (X.set 1 (endF (X.sd 1) (openL (X.sd 1).end_))) (own 2) w3)
 have hS3:w3.heap[gp]? = some (.cells (prow X ge lv wv) 143 (0,0)) ∧ w3.heap[w.heap.size]? = some (.cells #[.int .i64 kind,.int .i64 1,.int .i64 i,vb] 72 (0,0)):=⟨blk_kept hHeld.1 ht.2.1 (H.out.gp0 _),blk_kept hHeld.2 ht.2.1 (fun hx => by have:=H.out.lt _ _ hx; omega)⟩
 clear hT ht hQ2 hHeld
 refine hK.out _ _ hS3 (fun hHeld => ?_)
 clear hK K hS3
 refine norm_ (a':=?_) ?_ ?_
 rotate_left
 ·show Act.put _ (some 13) _ = _
  simp only [Act.put,sA,sZ,sS]
  rfl
 refine pure_ (i:=9) (N:=some 4) (v:=?_) (a':=?_) M2w rfl rfl (by kernel_rfl) (fun _ _ _ h => h) (Or.inl ⟨by rfl,?_⟩) ?_ ?_
 rotate_left
 ·intro w'
  go_simp
  with_reducible rfl
 rotate_left
 ·simp only [Act.put,sA,sZ,sS]
  rfl
 refine done_ (by kernel_rfl) ?_
 clear hHeld
 go_wp2_with fail
 all_goals (go_ret; exact ⟨rfl,HT.out⟩)
set_option maxRecDepth 100000 in
set_option maxHeartbeats 2000000 in
theorem tick_1 {w:World} {B gp:Nat} {ge:Nat → Nat} {own:Nat → Nat → Prop} {X:Pr} {lv:Nat → Value} {wv:Value} (h:PAt w B gp ge own X lv wv) (hok:(X.sd 1).end_.Ok) (kind i:Int) (vb:Value) :
  Calls Try.prog 110 #[.pointer (some ⟨gp,0,none⟩),.agg #[.int .i64 kind,.int .i64 1,.int .i64 i,vb]] w fun e w' => e = .returned (.int .i64 0) ∧ Moves w B gp ge own (X.set 1 (endF (X.sd 1) (tick_ (X.sd 1).end_))) (own 2) w':=by
 have hba:Below w.heap.size w (w.alloc (.cells #[.int .i64 kind,.int .i64 1,.int .i64 i,vb] 72)):=(Below.refl _ _).alloc (Nat.le_refl _) _
 have H:=Lib.hid h
 have OK:=Lib.hid hok
 have hSS:(w.alloc (.cells #[.int .i64 kind,.int .i64 1,.int .i64 i,vb] 72)).drew.heap[gp]? = some (.cells (prow X ge lv wv) 143 (0,0)) ∧ (w.alloc (.cells #[.int .i64 kind,.int .i64 1,.int .i64 i,vb] 72)).drew.heap[w.heap.size]? = some (.cells #[.int .i64 kind,.int .i64 1,.int .i64 i,vb] 72 (0,0)):=⟨(h.sub (bl_drew hba)).blk,heap_alloc_new w _⟩
 have hbd:=bl_drew hba
 have HSS:=Lib.hid hSS
 have HBD0:=Lib.hid hbd
 clear h hok hba hSS hbd
 go_enter Try.func110,Try.ntmps110
 go_wp2_with fail
 have hSS:=HSS.out
 have hbd:=HBD0.out
 clear HSS HBD0
 refine start_ (n:=9) (S:=fun w' => w'.heap[gp]? = some (.cells (prow X ge lv wv) 143 (0,0)) ∧ w'.heap[w.heap.size]? = some (.cells #[.int .i64 kind,.int .i64 1,.int .i64 i,vb] 72 (0,0))) (ds:=[]) M0L (by kernel_rfl) rfl rfl (hSS) (fun hHeld => ?_)
 generalize (w.alloc (.cells #[.int .i64 kind,.int .i64 1,.int .i64 i,vb] 72)).drew = w2 at hbd hHeld ⊢
 have HBD:=Lib.hid hbd
 clear hbd
 refine pure_ (i:=0) (N:=some 5) (v:=?_) (a':=?_) M2M rfl rfl (by kernel_rfl) (fun _ _ _ h => h) (Or.inl ⟨by rfl,?_⟩) ?_ ?_
 rotate_left
 ·intro w'
  go_simp
  with_reducible rfl
 rotate_left
 ·simp only [Act.put,sA,sZ,sS]
  rfl
 refine pure_ (i:=1) (N:=some 6) (v:=?_) (a':=?_) M2N rfl rfl (by kernel_rfl) (fun _ _ _ h => h) (Or.inl ⟨by rfl,?_⟩) ?_ ?_
 rotate_left
 ·intro w'
  go_simp
  with_reducible rfl
 rotate_left
 ·simp only [Act.put,sA,sZ,sS]
  rfl
 refine take_ (i:=2) (N:=some 7) (v:=?_) (a':=?_) M0Q rfl rfl (by kernel_rfl) (fun _ _ _ h => h) (Or.inl ⟨by rfl,?_⟩) hHeld ?_ ?_
 rotate_left
 ·intro w' s0
  have hc1:w'.cell? ⟨w.heap.size,1,none⟩ = some (.int .i64 1):=(blk_cell s0.2 1).trans rfl
  clear s0
  go_simp
  with_reducible rfl
 rotate_left
 ·simp only [Act.put,sA,sZ,sS]
  rfl
 refine pure_ (i:=3) (N:=some 8) (v:=?_) (a':=?_) M0S rfl rfl (by kernel_rfl) (fun _ _ _ h => h) (Or.inl ⟨by rfl,?_⟩) ?_ ?_
 rotate_left
 ·intro w'
  go_simp
  with_reducible rfl
 rotate_left
 ·simp only [Act.put,sA,sZ,sS]
  rfl
 refine pure_ (i:=4) (N:=some 9) (v:=?_) (a':=?_) M0V rfl rfl (by kernel_rfl) (fun _ _ _ h => h) (Or.inl ⟨by rfl,?_⟩) ?_ ?_
 rotate_left
 ·intro w'
  go_simp
  with_reducible rfl
 rotate_left
 ·simp only [Act.put,sA,sZ,sS]
  rfl
 refine pure_ (i:=5) (N:=some 10) (v:=?_) (a':=?_) M0X rfl rfl (by kernel_rfl) (fun _ _ _ h => h) (Or.inl ⟨by rfl,?_⟩) ?_ ?_
 rotate_left
 ·intro w'
  go_simp
  rfl
 rotate_left
 ·simp only [Act.put,sA,sZ,sS]
  rfl
 refine pure_ (i:=6) (N:=some 11) (v:=?_) (a':=?_) M10 rfl rfl (by kernel_rfl) (fun _ _ _ h => h) (Or.inl ⟨by rfl,?_⟩) ?_ ?_
 rotate_left
 ·intro w'
  go_simp
  with_reducible rfl
 rotate_left
 ·simp only [Act.put,sA,sZ,sS]
  rfl
 refine take_ (i:=7) (N:=some 12) (v:=?_) (a':=?_) M11 rfl rfl (by kernel_rfl) (fun _ _ _ h => h) (Or.inl ⟨by rfl,?_⟩) hHeld ?_ ?_
 rotate_left
 ·intro w' s0
  have hc2:w'.cell? ⟨gp,9,none⟩ = some (.pointer (some ⟨ge 1,0,none⟩)):=(blk_cell s0.1 9).trans rfl
  clear s0
  go_simp
  rfl
 rotate_left
 ·simp only [Act.put,sA,sZ,sS]
  rfl
 refine one_ (i:=8) (N:=some 13) M12 rfl rfl (by kernel_rfl) (by decide) (fun K hK => ?_)
 have hQ2:=H.out.sub HBD.out
 refine goes_ Try.func33 (by kernel_rfl) rfl #[.pointer (some ⟨ge 1,0,none⟩)] (by rfl) rfl rfl (by (try simp only [List.map_toArray,List.map_cons,List.map_nil]); first | done | rfl) ?_
 refine (tick_of (hQ2.e 1 (by decide)) OK.out hQ2.hB).mono ?_
 rintro e w3 ⟨rfl,ht⟩
 refine ⟨_,rfl,?_⟩
 have hT:=hQ2.turn (s:=1) (by decide) ht
 have HT:=Lib.hid (⟨_,lv,wv,hT,Grew.grow _ HBD.out.size,(Kept.of_below HBD.out _).then_ ht.2.1 (fun k hk => .inl hk),(HBD.out.mono H.out.hB).trans ht.2.2⟩:Moves w B gp ge own (X.set 1 (endF (X.sd 1) (tick_ (X.sd 1).end_))) (own 2) w3)
 have hS3:w3.heap[gp]? = some (.cells (prow X ge lv wv) 143 (0,0)) ∧ w3.heap[w.heap.size]? = some (.cells #[.int .i64 kind,.int .i64 1,.int .i64 i,vb] 72 (0,0)):=⟨blk_kept hHeld.1 ht.2.1 (H.out.gp0 _),blk_kept hHeld.2 ht.2.1 (fun hx => by have:=H.out.lt _ _ hx; omega)⟩
 clear hT ht hQ2 hHeld
 refine hK.out _ _ hS3 (fun hHeld => ?_)
 clear hK K hS3
 refine norm_ (a':=?_) ?_ ?_
 rotate_left
 ·show Act.put _ (some 13) _ = _
  simp only [Act.put,sA,sZ,sS]
  rfl
 refine done_ (by kernel_rfl) ?_
 clear hHeld
 go_wp2_with fail
 all_goals (go_ret; exact ⟨rfl,HT.out⟩)
end Go.Proofs.Ytnkkgofpifhoeaa.Pr
end
