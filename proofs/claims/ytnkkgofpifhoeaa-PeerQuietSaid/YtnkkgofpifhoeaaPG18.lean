/- What the laws of a pair are proved with: links and pairs in memory, what their methods do, what a pair keeps to (part 18). -/
import Derived.Test.YtnkkgofpifhoeaaPG14
set_option linter.unusedSimpArgs false
set_option linter.unusedVariables false
set_option maxRecDepth 100000
set_option maxHeartbeats 16000000
namespace Go.Proofs.Ytnkkgofpifhoeaa
theorem Z4 {p:Prop} (h:p:=by
 refine Aw (n:=19) (S:=fun w' => w'.heap[g]? = some (.cells (row (BD L) q o) 131 (0,0))) (ds:=[18]) dG (by kernel_rfl) rfl rfl (hSS) (fun hHeld => ?_)
 generalize (ED.drewN E5).drew = yc at hts hHeld ⊢
 have kP:=Lib.hid hts
 clear hts hSS
 have V8:=Lib.hid (Ec (⟨3,(BD L).token,(BD L).AL,(BD L).yours,0,(BD L).expected,0,0,0,0,[]⟩:BJ) (.slice none 0 0) kP.out.at_ (Jg OK.out) (Nat.le_trans hB kP.out.kept.1) (DI:=fun _ => False) (F5.2 ⟨_,rfl,Kd.Cc _ _ _ _ _⟩) (fun _ hk => hk.elim))
 refine pu 0 188 dH ?_
 refine pu 1 189 dI ?_
 refine pu 2 190 dJ ?_
 refine pu 3 191 dK ?_
 refine tk 4 192 dL hHeld ?_ (hf:=by intro w' s0; have hc2:w'.cell? ⟨g,2,none⟩ = some (.int .u32 (BD L).token):=(AA s0 2).trans rfl; clear s0; go_simp; with_reducible rfl)
 refine pu 5 193 dM ?_
 refine pu 6 194 dN ?_
 refine pu 7 195 dO ?_
 refine tk 8 196 dP hHeld ?_ (hf:=by intro w' s0; have hc3:w'.cell? ⟨g,3,none⟩ = some (.int .u32 (BD L).AL):=(AA s0 3).trans rfl; clear s0; go_simp; with_reducible rfl)
 refine pu 9 197 dQ ?_
 refine pu 10 198 dR ?_
 refine pu 11 199 dS ?_
 refine tk 12 200 dU hHeld ?_ (hf:=by intro w' s0; have hc4:w'.cell? ⟨g,4,none⟩ = some (.int .u32 (BD L).yours):=(AA s0 4).trans rfl; clear s0; go_simp; with_reducible rfl)
 refine pu 13 201 dV ?_
 refine pu 14 202 dW ?_
 refine pu 15 203 dX ?_
 refine tk 16 204 dY hHeld ?_ (hf:=by intro w' s0; have Hu:w'.cell? ⟨g,9,none⟩ = some (.int .u32 (BD L).expected):=(AA s0 9).trans rfl; clear s0; go_simp; with_reducible rfl)
 refine pu 17 205 dZ ?_ (hy:=by intro w'; have DZ:=Try.underlying27; go_simp; rfl)
 refine la 18 (some 206) dh fun K hK => ?_
 refine BK Try.func80 (by kernel_rfl) rfl #[.pointer (some ⟨g,0,none⟩),.agg #[.int .i64 3,.int .u32 (BD L).token,.int .u32 (BD L).AL,.int .u32 (BD L).yours,.int .u32 0,.int .u32 (BD L).expected,.int .u32 0,.int .u32 0,.complex .f64 0 0,.slice none 0 0]] (by rfl) rfl rfl (by (try simp only [List.map_toArray,List.map_cons,List.map_nil]); first | done | rfl) ?_
 refine V8.out.mono ?_
 rintro e Hz ⟨rfl,hE⟩
 obtain ⟨Ox,UJ,hF⟩:=TS.Gx kP.out hB hE
 have K7:=Lib.hid hF
 clear hE hF
 refine ⟨_,rfl,?_⟩
 refine hK.out _ _ ?_
 clear hK K
 refine BN (by kernel_rfl) ?_
 go_wp2_with fail
 refine wp_label ?_
 go_wp2_with (first | ((with_reducible refine AV (N:=207) rfl ?_); (refine wpList_load_row rfl 56 (.tmp 6) rfl (w.heap.size + 1) (by rfl) 56 _ (0,0) _ (by first | exact K7.out.tb | exact (K7.out.drewN hB _).tb) Try.underlying56 rfl (by kernel_rfl) ?_)) | ((with_reducible refine gate_ (.store 56 (.tmp 6) (.tmp 207)) rfl ?_); (refine Ae rfl rfl 56 (.tmp 6) (.tmp 207) rfl (w.heap.size + 1) _ rfl rfl 56 _ (by first | exact K7.out.tb | exact (K7.out.drewN hB _).tb) (by kernel_rfl) rfl (by kernel_rfl) ?_); (intro NK EJ EF); (have hF:=TS.Ip (by first | exact K7.out | exact K7.out.drewN hB _ | exact K7.out.drew hB) hB EF EJ (by first | exact K7.out.Et | exact (K7.out.drewN hB _).Et) (by first | exact K7.out.okb | exact (K7.out.drewN hB _).okb)); (have K8:=Lib.hid hF); (clear hF EJ EF)))
 refine Jump.ret ?_
 refine bodyPost_ret ?_ rfl (K8.out.ends)
 exact Ag Try.results34 _ _ rfl rfl (run_loadVar_row (P:=Try.prog) _ (w.heap.size + 1) 56 56 _ (0,0) _ K8.out.tb Try.underlying56 rfl (by kernel_rfl))):p:=h
end Go.Proofs.Ytnkkgofpifhoeaa
section
namespace Go.Proofs.Ytnkkgofpifhoeaa.Lk
open Go.RowKit Go.Proofs.Ytnkkgofpifhoeaa.Base Go.Proofs.Ytnkkgofpifhoeaa.Steps Go.Proofs.Ytnkkgofpifhoeaa.Pk Go.Proofs.Ytnkkgofpifhoeaa.Zv Go.Proofs.YtnkkgofpifhoeaaW.PrintWords Go.Proofs.YtnkkgofpifhoeaaW.PrintLast
theorem O8 {w:World} {B g:Nat} {Af Ac S:Nat → Prop} {L:Lk} {q o:Value} (h:At w B Af Ac g L q o) (hok:L.Ok) (hS:∀ k,holds Af Ac g k → S k) (hB:B ≤ w.heap.size) (AL:Int) (p:BJ) (Ab:Option Addr) (cb:Nat)
  (hb0:AL ≠ 0) (hbr:0 ≤ AL ∧ AL < 4294967296) (hpr:p.Jw) (hck:Ah p.kind p.mine p.AL p.yours p.seq p.AX p.stamp p.echo p.zr p.zi p.body.length = 0)  (Ci:L.phase = 2) (hag:Dj L AL p.mine = 0) (hmn:BU L p = true) (hpl:p.body.length ≤ 1000) {DI:Nat → Prop} (hR:(Kd.int .u8).R 5 w B DI (.slice Ab p.body.length cb) p.body) (hkp:∀ k,DI k → ¬ S k) (kn:Nat) (hkk:IntKind.u32.wrap (p.AX - L.base) = kn) (hkd:p.kind = 2) (JW:p.seq = L.expected) (h1k:1 ≤ kn) (hks:(kn:Int) ≤ L.sent) :
  Calls Try.prog 34 #[.pointer (some ⟨g,0,none⟩),.int .u32 AL,.agg #[.int .i64 p.kind,.int .u32 p.mine,.int .u32 p.AL,.int .u32 p.yours,.int .u32 p.seq,.int .u32 p.AX,.int .u32 p.stamp,.int .u32 p.echo,.complex .f64 p.zr p.zi,.slice Ab p.body.length cb]] w fun e w' => Ei w B S g (emit_ (BX (Cj (BD L) kn)) (MC (BX (Cj (BD L) kn)))) true false false p.body e w':=by
 have GU:=Lib.hid (show (((w.alloc (.cells #[.int .i64 p.kind,.int .u32 p.mine,.int .u32 p.AL,.int .u32 p.yours,.int .u32 p.seq,.int .u32 p.AX,.int .u32 p.stamp,.int .u32 p.echo,.complex .f64 p.zr p.zi,.slice Ab p.body.length cb] 27)).alloc (.cells #[.bool false,.bool false,.bool false,.slice none 0 0] 56))).heap[w.heap.size]? = some (.cells #[.int .i64 p.kind,.int .u32 p.mine,.int .u32 p.AL,.int .u32 p.yours,.int .u32 p.seq,.int .u32 p.AX,.int .u32 p.stamp,.int .u32 p.echo,.complex .f64 p.zr p.zi,.slice Ab p.body.length cb] 27 (0,0)) from (Below.heap_alloc _ _ _ (by simp)).trans (heap_alloc_new w _))
 have H:=Lib.hid h
 have OK:=Lib.hid hok
 have HS:=Lib.hid hS
 have EN:=Lib.hid hpr
 have FK:=Lib.hid hck
 have hbz:(AL == 0) = false:=by simp [hb0]
 have ES:=Lib.hid Ci
 clear Ci
 have IQ:=Lib.hid hag
 clear hag
 have Ez:=Lib.hid hkd
 clear hkd
 clear hbr
 have I5:=Lib.hid hmn
 clear hmn
 have UN:=Lib.hid hR
 have UO:=Lib.hid hkp
 have KG:=Lib.hid hpl
 clear hR hkp hpl
 have HKK:=Lib.hid hkk
 clear hkk
 have hlb:=OK.out.sent
 have UQ:=OK.out.queue
 have hd6:(p.seq == L.expected) = true:=by simp [JW]
 clear JW
 have hd7:decide ((kn:Int) ≥ 1) = true:=by simp; omega
 have hd8:decide ((kn:Int) ≤ L.sent) = true:=by simp; omega
 have hw8:IntKind.u32.wrap L.sent = L.sent:=by rw [Jv]; omega
 clear h1k
 have O1:=Lib.hid hks
 clear hks
 obtain ⟨A6,c6,hq6,Kr⟩:=Kd.FT h.queue
 subst hq6
 have UR:=Lib.hid (show kn ≤ L.queue.length by have:=O1.out; omega)
 have hsl:=MB A6 L.queue.length c6 kn UR.out Kr
 obtain ⟨A7,RJ⟩:∃ A,A = (if c6 = kn then A6 else A6.map (·.add (kn * bytes.sz))):=⟨_,rfl⟩
 rw [← RJ] at hsl
 have Zx:=Lib.hid RJ
 clear RJ
 clear Kr
 have hkq:=UR.out
 generalize SS:L.queue.length = qn at H hsl hkq hlb UQ
 have Zr:=Lib.hid SS
 clear SS
 have hc4:kn < 4294967296:=by omega
 clear h hok hS hpr hck hb0
 go_enter Try.func34,Try.ntmps34
 go_wp2_with fail
 refine Ap 3 (fun C HC => ?_)
 go_wp2_with (first | ((with_reducible refine AV (N:=17) rfl ?_); (refine wpList_load_row rfl 27 (.tmp 5) rfl w.heap.size (by rfl) 27 #[.int .i64 p.kind,.int .u32 p.mine,.int .u32 p.AL,.int .u32 p.yours,.int .u32 p.seq,.int .u32 p.AX,.int .u32 p.stamp,.int .u32 p.echo,.complex .f64 p.zr p.zi,.slice Ab p.body.length cb] (0,0) _ GU.out Try.underlying27 rfl (by kernel_rfl) ?_)) | (go_at_call 20; (refine (check_any _ _ _ _ _ _ _ _ _ _ _ _ _ _ EN.out.zr EN.out.zi).mono ?_); (rintro e BF ⟨rfl,hb⟩); (rw [FK.out]); (have K0:=Lib.hid (TS.start (pc:=#[.int .i64 p.kind,.int .u32 p.mine,.int .u32 p.AL,.int .u32 p.yours,.int .u32 p.seq,.int .u32 p.AX,.int .u32 p.stamp,.int .u32 p.echo,.complex .f64 p.zr p.zi,.slice Ab p.body.length cb]) H.out HS.out hB (hb.mono (by simp)))); (clear hb); (have hl1:BF.cell? ⟨g,1,none⟩ = some (.int .i64 2):=(AA K0.out.at_.blk 1).trans (congrArg (fun x => some (Value.int .i64 x)) ES.out)); (have hp0:BF.cell? ⟨w.heap.size,0,none⟩ = some (.int .i64 2):=(AA K0.out.pb 0).trans (congrArg (fun x => some (Value.int .i64 x)) Ez.out)); (have hp1:BF.cell? ⟨w.heap.size,1,none⟩ = some (.int .u32 p.mine):=(AA K0.out.pb 1).trans rfl)) | (go_at_call 76; (refine (C9 K0.out.at_ AL p.mine).mono ?_); (rintro e w1 ⟨rfl,rfl⟩); (rw [IQ.out])) | ((with_reducible refine AV (N:=59) rfl ?_); (refine Cf (by rfl) ?_); (refine wpList_load_row rfl 27 (.tmp 5) rfl w.heap.size (by rfl) 27 _ (0,0) _ (by first | exact K0.out.pb | exact (K0.out.drewN hB _).pb) Try.underlying27 rfl (by kernel_rfl) ?_)) | (go_at_call 77; (refine (DV K0.out.at_ p (.slice Ab p.body.length cb)).mono ?_); (rintro e Bl ⟨rfl,hb⟩); (have hme:BU (L) p = true:=I5.out); (rw [hme]); (clear hme); (have K1:=Lib.hid (K0.out.sub hB hb)); (clear hb); (clear hl1 hp0 hp1)) | ((with_reducible refine gate_ (.store 4 (.tmp 62) (.const (.bool true))) rfl ?_); (refine AY (fun wz => TS w B S g #[.int .i64 p.kind,.int .u32 p.mine,.int .u32 p.AL,.int .u32 p.yours,.int .u32 p.seq,.int .u32 p.AX,.int .u32 p.stamp,.int .u32 p.echo,.complex .f64 p.zr p.zi,.slice Ab p.body.length cb] Af Ac (fun _ => False) (L) (.slice A6 qn c6) o true false false (.slice none 0 0) [] wz) rfl rfl ⟨_,(by have hz1:World.cell? Bl ⟨w.heap.size + 1,0,none⟩ = some _:=(AA K1.out.tb 0).trans rfl; have hz2:=AB K1.out.tb 0; first | (go_simp; done) | (go_simp; rfl)),TS.EY K1.out hB 0 _ rfl⟩ (fun BG hF => ?_)); (have K2:=Lib.hid hF); (clear hF); (have MS:BG.cell? ⟨g,9,none⟩ = some (.int .u32 L.expected):=(AA K2.out.at_.blk 9).trans rfl); (have hp0:BG.cell? ⟨w.heap.size,0,none⟩ = some (.int .i64 2):=(AA K2.out.pb 0).trans (congrArg (fun x => some (Value.int .i64 x)) Ez.out)); (have Kt:BG.cell? ⟨w.heap.size,4,none⟩ = some (.int .u32 p.seq):=(AA K2.out.pb 4).trans rfl)))
 refine wp_goto ?_
 refine Jump.goto HC.out rfl ?_
 go_wp2_with fail
 go_quiet (fail)
 rename Nat => F9
 go_wp2_with (first | ((with_reducible refine gate_ (.store 24 (.tmp 131) (.tmp 129)) rfl ?_); (refine AY (fun wz => TS w B S g #[.int .i64 p.kind,.int .u32 p.mine,.int .u32 p.AL,.int .u32 p.yours,.int .u32 p.seq,.int .u32 p.AX,.int .u32 p.stamp,.int .u32 p.echo,.complex .f64 p.zr p.zi,.slice Ab p.body.length cb] Af Ac (fun _ => False) (BD L) (.slice A6 qn c6) o true false false (.slice none 0 0) [] wz) rfl rfl ⟨_,(by have hz1:World.cell? BG ⟨g,9,none⟩ = some _:=(AA K2.out.at_.blk 9).trans rfl; have hz2:=AB K2.out.at_.blk 9; first | (go_simp; done) | (go_simp; rfl)),TS.Dz (K2.out.drewN hB F9) hB 9 _ rfl rfl rfl⟩ (fun CJ hF => ?_)); (have K3:=Lib.hid hF); (clear hF); (clear MS hp0 Kt); (have Zy:CJ.cell? ⟨w.heap.size,9,none⟩ = some (.slice Ab p.body.length cb):=(AA K3.out.pb 9).trans rfl)) | ((with_reducible refine AV (N:=134) rfl ?_); (refine Kd.Fb (Kd.int .u8) (Rr:=fun x cs => cs = [Value.int .u8 x]) (w0:=w) (W:=CJ) B rfl (.const (.slice none 0 0)) (.tmp 133) 22 5 (.int .u8 0) 1 rfl Try.underlying22 Ju rfl (by decide) (by decide) (.slice none 0 0) [] p.body Ab p.body.length cb (fun k => CJ.heap.size ≤ k) (fun _ => False) rfl rfl (Kd.Cc _ _ _ _ _) (Kd.D9 (Kd.BI UN.out K3.out.kept UO.out)).2.2 (fun _ _ hx => hx) (fun _ hf => hf.elim) (fun k hk => hk) K3.out.below (Nat.le_trans hB K3.out.kept.1) (by have:=KG.out; simp; omega) ?_); (intro v1 Dl hR hbl hg _); (obtain ⟨A1,c1,hv1⟩:=Kd.Am hR); (subst hv1); (have hF:=TS.grow K3.out hB (⟨hg.os,hg.tape,hg.output,hg.size,fun k hk => hg.block k hk (by simp [Value.ownBlock])⟩:Below CJ.heap.size CJ Dl) hR); (have K4:=Lib.hid hF.1); (have XK:=Lib.hid hF.2); (clear hF hR hbl hg); (clear Zy)) | ((with_reducible refine gate_ (.store 22 (.tmp 135) (.tmp 134)) rfl ?_); (refine AY (fun wz => TS w B S g #[.int .i64 p.kind,.int .u32 p.mine,.int .u32 p.AL,.int .u32 p.yours,.int .u32 p.seq,.int .u32 p.AX,.int .u32 p.stamp,.int .u32 p.echo,.complex .f64 p.zr p.zi,.slice Ab p.body.length cb] Af Ac (fun k => CJ.heap.size ≤ k ∧ k < Dl.heap.size) (BD L) (.slice A6 qn c6) o true false false ((.slice A1 ([] ++ p.body).length c1)) p.body wz) rfl rfl ⟨_,(by have hz1:World.cell? Dl ⟨w.heap.size + 1,3,none⟩ = some _:=(AA K4.out.tb 3).trans rfl; have hz2:=AB K4.out.tb 3; first | (go_simp; done) | (go_simp; rfl)),K4.out.Ip hB (Steps.At.set (Steps.At.refl _ _) 3 _) (AQ K4.out.tb 3 _ rfl) XK.out.1 XK.out.2⟩ (fun ED hF => ?_)); (have K5:=Lib.hid hF); (clear hF); (have KU:ED.cell? ⟨g,8,none⟩ = some (.int .u32 L.base):=(AA K5.out.at_.blk 8).trans rfl); (have Kr:ED.cell? ⟨g,6,none⟩ = some ((.slice A6 qn c6)):=(AA K5.out.at_.blk 6).trans rfl); (have He:ED.cell? ⟨g,7,none⟩ = some (.int .i64 L.sent):=(AA K5.out.at_.blk 7).trans rfl); (have QS:ED.cell? ⟨w.heap.size,5,none⟩ = some (.int .u32 p.AX):=(AA K5.out.pb 5).trans rfl); (have hp0:ED.cell? ⟨w.heap.size,0,none⟩ = some (.int .i64 2):=(AA K5.out.pb 0).trans (congrArg (fun x => some (Value.int .i64 x)) Ez.out))))
 go_quiet ((go_at_call 79; refine (Eh _ _ _).mono fun _ _ hq => ⟨hq.1.trans (congrArg (fun x => Ending.returned (.int .u32 x)) HKK.out),_,hq.2.symm⟩))
 rename Nat => E5
 go_wp2_with (first | ((with_reducible refine gate_ (.store 45 (.tmp 162) (.tmp 160)) rfl ?_); (refine AY (fun wz => TS w B S g #[.int .i64 p.kind,.int .u32 p.mine,.int .u32 p.AL,.int .u32 p.yours,.int .u32 p.seq,.int .u32 p.AX,.int .u32 p.stamp,.int .u32 p.echo,.complex .f64 p.zr p.zi,.slice Ab p.body.length cb] Af Ac (fun k => CJ.heap.size ≤ k ∧ k < Dl.heap.size) ({ BD L with queue:=(BD L).queue.drop kn }) (.slice A7 (qn - kn) (c6 - kn)) o true false false ((.slice A1 ([] ++ p.body).length c1)) p.body wz) rfl rfl ⟨_,(by have hz1:World.cell? ED ⟨g,6,none⟩ = some _:=(AA K5.out.at_.blk 6).trans rfl; have hz2:=AB K5.out.at_.blk 6; first | (go_simp; done) | (go_simp; rfl)),TS.cut (K5.out.drewN hB E5) hB rfl UR.out Zx.out⟩ (fun IM hF => ?_)); (have K6:=Lib.hid hF); (clear hF); (clear KU Kr He QS hp0); (have KU:IM.cell? ⟨g,8,none⟩ = some (.int .u32 L.base):=(AA K6.out.at_.blk 8).trans rfl); (have He:IM.cell? ⟨g,7,none⟩ = some (.int .i64 L.sent):=(AA K6.out.at_.blk 7).trans rfl); (have hp0:IM.cell? ⟨w.heap.size,0,none⟩ = some (.int .i64 2):=(AA K6.out.pb 0).trans (congrArg (fun x => some (Value.int .i64 x)) Ez.out))) | ((with_reducible refine gate_ (.store 24 (.tmp 170) (.tmp 168)) rfl ?_); (have hT:TS w B S g #[.int .i64 p.kind,.int .u32 p.mine,.int .u32 p.AL,.int .u32 p.yours,.int .u32 p.seq,.int .u32 p.AX,.int .u32 p.stamp,.int .u32 p.echo,.complex .f64 p.zr p.zi,.slice Ab p.body.length cb] Af Ac (fun k => CJ.heap.size ≤ k ∧ k < Dl.heap.size) ({ BD L with queue:=(BD L).queue.drop kn,base:=IntKind.u32.wrap (L.base + kn) }) (.slice A7 (qn - kn) (c6 - kn)) o true false false ((.slice A1 ([] ++ p.body).length c1)) p.body (World.setCell IM ⟨g,8,none⟩ (.int .u32 (IntKind.u32.wrap (L.base + kn)))):=TS.Dz K6.out hB 8 (.int .u32 (IntKind.u32.wrap (L.base + kn))) rfl rfl rfl); (refine AY (fun wz => TS w B S g #[.int .i64 p.kind,.int .u32 p.mine,.int .u32 p.AL,.int .u32 p.yours,.int .u32 p.seq,.int .u32 p.AX,.int .u32 p.stamp,.int .u32 p.echo,.complex .f64 p.zr p.zi,.slice Ab p.body.length cb] Af Ac (fun k => CJ.heap.size ≤ k ∧ k < Dl.heap.size) ({ BD L with queue:=(BD L).queue.drop kn,base:=IntKind.u32.wrap (L.base + kn) }) (.slice A7 (qn - kn) (c6 - kn)) o true false false ((.slice A1 ([] ++ p.body).length c1)) p.body wz) rfl rfl ⟨_,(by have hz1:World.cell? IM ⟨g,8,none⟩ = some _:=(AA K6.out.at_.blk 8).trans rfl; have hz2:=AB K6.out.at_.blk 8; first | (go_simp; done) | (go_simp; rfl)),hT⟩ (fun Hz hF => ?_)); (have K7:=Lib.hid hF); (clear hF hT); (clear KU He hp0); (have He:Hz.cell? ⟨g,7,none⟩ = some (.int .i64 L.sent):=(AA K7.out.at_.blk 7).trans rfl); (have hp0:Hz.cell? ⟨w.heap.size,0,none⟩ = some (.int .i64 2):=(AA K7.out.pb 0).trans (congrArg (fun x => some (Value.int .i64 x)) Ez.out))) | ((with_reducible refine gate_ (.store 3 (.tmp 179) (.tmp 177)) rfl ?_); (have hT:TS w B S g #[.int .i64 p.kind,.int .u32 p.mine,.int .u32 p.AL,.int .u32 p.yours,.int .u32 p.seq,.int .u32 p.AX,.int .u32 p.stamp,.int .u32 p.echo,.complex .f64 p.zr p.zi,.slice Ab p.body.length cb] Af Ac (fun k => CJ.heap.size ≤ k ∧ k < Dl.heap.size) ({ BD L with queue:=(BD L).queue.drop kn,base:=IntKind.u32.wrap (L.base + kn),sent:=L.sent - kn }) (.slice A7 (qn - kn) (c6 - kn)) o true false false ((.slice A1 ([] ++ p.body).length c1)) p.body (World.setCell Hz ⟨g,7,none⟩ (.int .i64 (L.sent - kn))):=TS.Dz K7.out hB 7 (.int .i64 (L.sent - kn)) rfl rfl rfl); (refine AY (fun wz => TS w B S g #[.int .i64 p.kind,.int .u32 p.mine,.int .u32 p.AL,.int .u32 p.yours,.int .u32 p.seq,.int .u32 p.AX,.int .u32 p.stamp,.int .u32 p.echo,.complex .f64 p.zr p.zi,.slice Ab p.body.length cb] Af Ac (fun k => CJ.heap.size ≤ k ∧ k < Dl.heap.size) ({ BD L with queue:=(BD L).queue.drop kn,base:=IntKind.u32.wrap (L.base + kn),sent:=L.sent - kn }) (.slice A7 (qn - kn) (c6 - kn)) o true false false ((.slice A1 ([] ++ p.body).length c1)) p.body wz) rfl rfl ⟨_,(by have hz1:World.cell? Hz ⟨g,7,none⟩ = some _:=(AA K7.out.at_.blk 7).trans rfl; have hz2:=AB K7.out.at_.blk 7; first | (go_simp; done) | (go_simp; rfl)),hT⟩ (fun NK hF => ?_)); (have K8:=Lib.hid hF); (clear hF hT); (clear He hp0); (have hp0:NK.cell? ⟨w.heap.size,0,none⟩ = some (.int .i64 2):=(AA K8.out.pb 0).trans (congrArg (fun x => some (Value.int .i64 x)) Ez.out))) | ((with_reducible refine gate_ (.store 3 (.tmp 182) (.const (.int .i64 0))) rfl ?_); (have hT:TS w B S g #[.int .i64 p.kind,.int .u32 p.mine,.int .u32 p.AL,.int .u32 p.yours,.int .u32 p.seq,.int .u32 p.AX,.int .u32 p.stamp,.int .u32 p.echo,.complex .f64 p.zr p.zi,.slice Ab p.body.length cb] Af Ac (fun k => CJ.heap.size ≤ k ∧ k < Dl.heap.size) (Cj (BD L) kn) (.slice A7 (qn - kn) (c6 - kn)) o true false false ((.slice A1 ([] ++ p.body).length c1)) p.body (World.setCell NK ⟨g,10,none⟩ (.int .i64 0)):=TS.Dz K8.out hB 10 (.int .i64 0) rfl rfl rfl); (refine AY (fun wz => TS w B S g #[.int .i64 p.kind,.int .u32 p.mine,.int .u32 p.AL,.int .u32 p.yours,.int .u32 p.seq,.int .u32 p.AX,.int .u32 p.stamp,.int .u32 p.echo,.complex .f64 p.zr p.zi,.slice Ab p.body.length cb] Af Ac (fun k => CJ.heap.size ≤ k ∧ k < Dl.heap.size) (Cj (BD L) kn) (.slice A7 (qn - kn) (c6 - kn)) o true false false ((.slice A1 ([] ++ p.body).length c1)) p.body wz) rfl rfl ⟨_,(by have hz1:World.cell? NK ⟨g,10,none⟩ = some _:=(AA K8.out.at_.blk 10).trans rfl; have hz2:=AB K8.out.at_.blk 10; first | (go_simp; done) | (go_simp; rfl)),hT⟩ (fun WB hF => ?_)); (have K9:=Lib.hid hF); (clear hF hT); (clear hp0); (have hp0:WB.cell? ⟨w.heap.size,0,none⟩ = some (.int .i64 2):=(AA K9.out.pb 0).trans (congrArg (fun x => some (Value.int .i64 x)) Ez.out))) | (go_at_call 74; (refine (Jf K9.out.at_ (JC (Jg OK.out) O1.out) (Nat.le_trans hB K9.out.kept.1)).mono ?_); (rintro e QO ⟨rfl,hE⟩); (obtain ⟨iM,XL,hF⟩:=TS.Gx K9.out hB hE); (clear hE); (have K10:=Lib.hid hF); (clear hF); (clear hp0); (have hp0:QO.cell? ⟨w.heap.size,0,none⟩ = some (.int .i64 2):=(AA K10.out.pb 0).trans (congrArg (fun x => some (Value.int .i64 x)) Ez.out))))
 have hSS:QO.drew.heap[g]? = some (.cells (row (BX (Cj (BD L) kn)) (.slice A7 (qn - kn) (c6 - kn)) XL) 131 (0,0)):=K10.out.at_.blk
 have hts:=K10.out.drew hB
 clear hp0
 refine Aw (n:=19) (S:=fun w' => w'.heap[g]? = some (.cells (row (BX (Cj (BD L) kn)) (.slice A7 (qn - kn) (c6 - kn)) XL) 131 (0,0))) (ds:=[18]) dG (by kernel_rfl) rfl rfl (hSS) (fun hHeld => ?_)
 generalize QO.drew = pX at hts hHeld ⊢
 have YK:=Lib.hid hts
 clear hts hSS
 have V8:=Lib.hid (Ec (⟨3,(BX (Cj (BD L) kn)).token,(BX (Cj (BD L) kn)).AL,(BX (Cj (BD L) kn)).yours,0,(BX (Cj (BD L) kn)).expected,0,0,0,0,[]⟩:BJ) (.slice none 0 0) YK.out.at_ (QN (JC (Jg OK.out) O1.out)) (Nat.le_trans hB YK.out.kept.1) (DI:=fun _ => False) (F5.2 ⟨_,rfl,Kd.Cc _ _ _ _ _⟩) (fun _ hk => hk.elim))
 refine pu 0 188 dH ?_
 refine pu 1 189 dI ?_
 refine pu 2 190 dJ ?_
 refine pu 3 191 dK ?_
 refine tk 4 192 dL hHeld ?_ (hf:=by intro w' s0; have hc2:w'.cell? ⟨g,2,none⟩ = some (.int .u32 (BX (Cj (BD L) kn)).token):=(AA s0 2).trans rfl; clear s0; go_simp; with_reducible rfl)
 refine pu 5 193 dM ?_
 refine pu 6 194 dN ?_
 refine pu 7 195 dO ?_
 refine tk 8 196 dP hHeld ?_ (hf:=by intro w' s0; have hc3:w'.cell? ⟨g,3,none⟩ = some (.int .u32 (BX (Cj (BD L) kn)).AL):=(AA s0 3).trans rfl; clear s0; go_simp; with_reducible rfl)
 refine pu 9 197 dQ ?_
 refine pu 10 198 dR ?_
 refine pu 11 199 dS ?_
 refine tk 12 200 dU hHeld ?_ (hf:=by intro w' s0; have hc4:w'.cell? ⟨g,4,none⟩ = some (.int .u32 (BX (Cj (BD L) kn)).yours):=(AA s0 4).trans rfl; clear s0; go_simp; with_reducible rfl)
 refine pu 13 201 dV ?_
 refine pu 14 202 dW ?_
 refine pu 15 203 dX ?_
 refine tk 16 204 dY hHeld ?_ (hf:=by intro w' s0; have Hu:w'.cell? ⟨g,9,none⟩ = some (.int .u32 (BX (Cj (BD L) kn)).expected):=(AA s0 9).trans rfl; clear s0; go_simp; with_reducible rfl)
 refine pu 17 205 dZ ?_ (hy:=by intro w'; have DZ:=Try.underlying27; go_simp; rfl)
 refine la 18 (some 206) dh fun K hK => ?_
 refine BK Try.func80 (by kernel_rfl) rfl #[.pointer (some ⟨g,0,none⟩),.agg #[.int .i64 3,.int .u32 (BX (Cj (BD L) kn)).token,.int .u32 (BX (Cj (BD L) kn)).AL,.int .u32 (BX (Cj (BD L) kn)).yours,.int .u32 0,.int .u32 (BX (Cj (BD L) kn)).expected,.int .u32 0,.int .u32 0,.complex .f64 0 0,.slice none 0 0]] (by rfl) rfl rfl (by (try simp only [List.map_toArray,List.map_cons,List.map_nil]); first | done | rfl) ?_
 refine V8.out.mono ?_
 rintro e pY ⟨rfl,hE⟩
 obtain ⟨iO,pg,hF⟩:=TS.Gx YK.out hB hE
 have UT:=Lib.hid hF
 clear hE hF
 refine ⟨_,rfl,?_⟩
 refine hK.out _ _ ?_
 clear hK K
 refine BN (by kernel_rfl) ?_
 go_wp2_with fail
 refine wp_label ?_
 go_wp2_with (first | ((with_reducible refine AV (N:=207) rfl ?_); (refine wpList_load_row rfl 56 (.tmp 6) rfl (w.heap.size + 1) (by rfl) 56 _ (0,0) _ (by first | exact UT.out.tb | exact (UT.out.drewN hB _).tb) Try.underlying56 rfl (by kernel_rfl) ?_)) | ((with_reducible refine gate_ (.store 56 (.tmp 6) (.tmp 207)) rfl ?_); (refine Ae rfl rfl 56 (.tmp 6) (.tmp 207) rfl (w.heap.size + 1) _ rfl rfl 56 _ (by first | exact UT.out.tb | exact (UT.out.drewN hB _).tb) (by kernel_rfl) rfl (by kernel_rfl) ?_); (intro pq EJ EF); (have hF:=TS.Ip (by first | exact UT.out | exact UT.out.drewN hB _ | exact UT.out.drew hB) hB EF EJ (by first | exact UT.out.Et | exact (UT.out.drewN hB _).Et) (by first | exact UT.out.okb | exact (UT.out.drewN hB _).okb)); (have pz:=Lib.hid hF); (clear hF EJ EF)))
 refine Jump.ret ?_
 refine bodyPost_ret ?_ rfl (pz.out.ends)
 exact Ag Try.results34 _ _ rfl rfl (run_loadVar_row (P:=Try.prog) _ (w.heap.size + 1) 56 56 _ (0,0) _ pz.out.tb Try.underlying56 rfl (by kernel_rfl))
theorem O9 {w:World} {B g:Nat} {Af Ac S:Nat → Prop} {L:Lk} {q o:Value} (h:At w B Af Ac g L q o) (hok:L.Ok) (hS:∀ k,holds Af Ac g k → S k) (hB:B ≤ w.heap.size) (AL:Int) (p:BJ) (Ab:Option Addr) (cb:Nat)
  (hb0:AL ≠ 0) (hbr:0 ≤ AL ∧ AL < 4294967296) (hpr:p.Jw) (hck:Ah p.kind p.mine p.AL p.yours p.seq p.AX p.stamp p.echo p.zr p.zi p.body.length = 0)  (Ci:L.phase = 2) (hag:Dj L AL p.mine = 0) (hmn:BU L p = true) (hpl:p.body.length ≤ 1000) {DI:Nat → Prop} (hR:(Kd.int .u8).R 5 w B DI (.slice Ab p.body.length cb) p.body) (hkp:∀ k,DI k → ¬ S k) (kn:Nat) (hkk:IntKind.u32.wrap (p.AX - L.base) = kn) (hkd:p.kind = 2) (JW:p.seq = L.expected) (h1k:kn = 0) :
  Calls Try.prog 34 #[.pointer (some ⟨g,0,none⟩),.int .u32 AL,.agg #[.int .i64 p.kind,.int .u32 p.mine,.int .u32 p.AL,.int .u32 p.yours,.int .u32 p.seq,.int .u32 p.AX,.int .u32 p.stamp,.int .u32 p.echo,.complex .f64 p.zr p.zi,.slice Ab p.body.length cb]] w fun e w' => Ei w B S g (emit_ (BD L) (MC (BD L))) true false false p.body e w':=by
 have GU:=Lib.hid (show (((w.alloc (.cells #[.int .i64 p.kind,.int .u32 p.mine,.int .u32 p.AL,.int .u32 p.yours,.int .u32 p.seq,.int .u32 p.AX,.int .u32 p.stamp,.int .u32 p.echo,.complex .f64 p.zr p.zi,.slice Ab p.body.length cb] 27)).alloc (.cells #[.bool false,.bool false,.bool false,.slice none 0 0] 56))).heap[w.heap.size]? = some (.cells #[.int .i64 p.kind,.int .u32 p.mine,.int .u32 p.AL,.int .u32 p.yours,.int .u32 p.seq,.int .u32 p.AX,.int .u32 p.stamp,.int .u32 p.echo,.complex .f64 p.zr p.zi,.slice Ab p.body.length cb] 27 (0,0)) from (Below.heap_alloc _ _ _ (by simp)).trans (heap_alloc_new w _))
 have H:=Lib.hid h
 have OK:=Lib.hid hok
 have HS:=Lib.hid hS
 have EN:=Lib.hid hpr
 have FK:=Lib.hid hck
 have hbz:(AL == 0) = false:=by simp [hb0]
 have ES:=Lib.hid Ci
 clear Ci
 have IQ:=Lib.hid hag
 clear hag
 have Ez:=Lib.hid hkd
 clear hkd
 clear hbr
 have I5:=Lib.hid hmn
 clear hmn
 have UN:=Lib.hid hR
 have UO:=Lib.hid hkp
 have KG:=Lib.hid hpl
 clear hR hkp hpl
 have HKK:=Lib.hid hkk
 clear hkk
 have hlb:=OK.out.sent
 have UQ:=OK.out.queue
 have hd6:(p.seq == L.expected) = true:=by simp [JW]
 clear JW
 have hd7:decide ((kn:Int) ≥ 1) = false:=by simp; omega
 clear h1k
 clear h hok hS hpr hck hb0
 go_enter Try.func34,Try.ntmps34
 go_wp2_with fail
 refine Ap 3 (fun C HC => ?_)
 go_wp2_with (first | ((with_reducible refine AV (N:=17) rfl ?_); (refine wpList_load_row rfl 27 (.tmp 5) rfl w.heap.size (by rfl) 27 #[.int .i64 p.kind,.int .u32 p.mine,.int .u32 p.AL,.int .u32 p.yours,.int .u32 p.seq,.int .u32 p.AX,.int .u32 p.stamp,.int .u32 p.echo,.complex .f64 p.zr p.zi,.slice Ab p.body.length cb] (0,0) _ GU.out Try.underlying27 rfl (by kernel_rfl) ?_)) | (go_at_call 20; (refine (check_any _ _ _ _ _ _ _ _ _ _ _ _ _ _ EN.out.zr EN.out.zi).mono ?_); (rintro e BF ⟨rfl,hb⟩); (rw [FK.out]); (have K0:=Lib.hid (TS.start (pc:=#[.int .i64 p.kind,.int .u32 p.mine,.int .u32 p.AL,.int .u32 p.yours,.int .u32 p.seq,.int .u32 p.AX,.int .u32 p.stamp,.int .u32 p.echo,.complex .f64 p.zr p.zi,.slice Ab p.body.length cb]) H.out HS.out hB (hb.mono (by simp)))); (clear hb); (have hl1:BF.cell? ⟨g,1,none⟩ = some (.int .i64 2):=(AA K0.out.at_.blk 1).trans (congrArg (fun x => some (Value.int .i64 x)) ES.out)); (have hp0:BF.cell? ⟨w.heap.size,0,none⟩ = some (.int .i64 2):=(AA K0.out.pb 0).trans (congrArg (fun x => some (Value.int .i64 x)) Ez.out)); (have hp1:BF.cell? ⟨w.heap.size,1,none⟩ = some (.int .u32 p.mine):=(AA K0.out.pb 1).trans rfl)) | (go_at_call 76; (refine (C9 K0.out.at_ AL p.mine).mono ?_); (rintro e w1 ⟨rfl,rfl⟩); (rw [IQ.out])) | ((with_reducible refine AV (N:=59) rfl ?_); (refine Cf (by rfl) ?_); (refine wpList_load_row rfl 27 (.tmp 5) rfl w.heap.size (by rfl) 27 _ (0,0) _ (by first | exact K0.out.pb | exact (K0.out.drewN hB _).pb) Try.underlying27 rfl (by kernel_rfl) ?_)) | (go_at_call 77; (refine (DV K0.out.at_ p (.slice Ab p.body.length cb)).mono ?_); (rintro e Bl ⟨rfl,hb⟩); (have hme:BU (L) p = true:=I5.out); (rw [hme]); (clear hme); (have K1:=Lib.hid (K0.out.sub hB hb)); (clear hb); (clear hl1 hp0 hp1)) | ((with_reducible refine gate_ (.store 4 (.tmp 62) (.const (.bool true))) rfl ?_); (refine AY (fun wz => TS w B S g #[.int .i64 p.kind,.int .u32 p.mine,.int .u32 p.AL,.int .u32 p.yours,.int .u32 p.seq,.int .u32 p.AX,.int .u32 p.stamp,.int .u32 p.echo,.complex .f64 p.zr p.zi,.slice Ab p.body.length cb] Af Ac (fun _ => False) (L) q o true false false (.slice none 0 0) [] wz) rfl rfl ⟨_,(by have hz1:World.cell? Bl ⟨w.heap.size + 1,0,none⟩ = some _:=(AA K1.out.tb 0).trans rfl; have hz2:=AB K1.out.tb 0; first | (go_simp; done) | (go_simp; rfl)),TS.EY K1.out hB 0 _ rfl⟩ (fun BG hF => ?_)); (have K2:=Lib.hid hF); (clear hF); (have MS:BG.cell? ⟨g,9,none⟩ = some (.int .u32 L.expected):=(AA K2.out.at_.blk 9).trans rfl); (have hp0:BG.cell? ⟨w.heap.size,0,none⟩ = some (.int .i64 2):=(AA K2.out.pb 0).trans (congrArg (fun x => some (Value.int .i64 x)) Ez.out)); (have Kt:BG.cell? ⟨w.heap.size,4,none⟩ = some (.int .u32 p.seq):=(AA K2.out.pb 4).trans rfl)))
 refine wp_goto ?_
 refine Jump.goto HC.out rfl ?_
 go_wp2_with fail
 go_quiet (fail)
 rename Nat => F9
 go_wp2_with (first | ((with_reducible refine gate_ (.store 24 (.tmp 131) (.tmp 129)) rfl ?_); (refine AY (fun wz => TS w B S g #[.int .i64 p.kind,.int .u32 p.mine,.int .u32 p.AL,.int .u32 p.yours,.int .u32 p.seq,.int .u32 p.AX,.int .u32 p.stamp,.int .u32 p.echo,.complex .f64 p.zr p.zi,.slice Ab p.body.length cb] Af Ac (fun _ => False) (BD L) q o true false false (.slice none 0 0) [] wz) rfl rfl ⟨_,(by have hz1:World.cell? BG ⟨g,9,none⟩ = some _:=(AA K2.out.at_.blk 9).trans rfl; have hz2:=AB K2.out.at_.blk 9; first | (go_simp; done) | (go_simp; rfl)),TS.Dz (K2.out.drewN hB F9) hB 9 _ rfl rfl rfl⟩ (fun CJ hF => ?_)); (have K3:=Lib.hid hF); (clear hF); (clear MS hp0 Kt); (have Zy:CJ.cell? ⟨w.heap.size,9,none⟩ = some (.slice Ab p.body.length cb):=(AA K3.out.pb 9).trans rfl)) | ((with_reducible refine AV (N:=134) rfl ?_); (refine Kd.Fb (Kd.int .u8) (Rr:=fun x cs => cs = [Value.int .u8 x]) (w0:=w) (W:=CJ) B rfl (.const (.slice none 0 0)) (.tmp 133) 22 5 (.int .u8 0) 1 rfl Try.underlying22 Ju rfl (by decide) (by decide) (.slice none 0 0) [] p.body Ab p.body.length cb (fun k => CJ.heap.size ≤ k) (fun _ => False) rfl rfl (Kd.Cc _ _ _ _ _) (Kd.D9 (Kd.BI UN.out K3.out.kept UO.out)).2.2 (fun _ _ hx => hx) (fun _ hf => hf.elim) (fun k hk => hk) K3.out.below (Nat.le_trans hB K3.out.kept.1) (by have:=KG.out; simp; omega) ?_); (intro v1 Dl hR hbl hg _); (obtain ⟨A1,c1,hv1⟩:=Kd.Am hR); (subst hv1); (have hF:=TS.grow K3.out hB (⟨hg.os,hg.tape,hg.output,hg.size,fun k hk => hg.block k hk (by simp [Value.ownBlock])⟩:Below CJ.heap.size CJ Dl) hR); (have K4:=Lib.hid hF.1); (have XK:=Lib.hid hF.2); (clear hF hR hbl hg); (clear Zy)) | ((with_reducible refine gate_ (.store 22 (.tmp 135) (.tmp 134)) rfl ?_); (refine AY (fun wz => TS w B S g #[.int .i64 p.kind,.int .u32 p.mine,.int .u32 p.AL,.int .u32 p.yours,.int .u32 p.seq,.int .u32 p.AX,.int .u32 p.stamp,.int .u32 p.echo,.complex .f64 p.zr p.zi,.slice Ab p.body.length cb] Af Ac (fun k => CJ.heap.size ≤ k ∧ k < Dl.heap.size) (BD L) q o true false false ((.slice A1 ([] ++ p.body).length c1)) p.body wz) rfl rfl ⟨_,(by have hz1:World.cell? Dl ⟨w.heap.size + 1,3,none⟩ = some _:=(AA K4.out.tb 3).trans rfl; have hz2:=AB K4.out.tb 3; first | (go_simp; done) | (go_simp; rfl)),K4.out.Ip hB (Steps.At.set (Steps.At.refl _ _) 3 _) (AQ K4.out.tb 3 _ rfl) XK.out.1 XK.out.2⟩ (fun ED hF => ?_)); (have K5:=Lib.hid hF); (clear hF); (have KU:ED.cell? ⟨g,8,none⟩ = some (.int .u32 L.base):=(AA K5.out.at_.blk 8).trans rfl); (have QS:ED.cell? ⟨w.heap.size,5,none⟩ = some (.int .u32 p.AX):=(AA K5.out.pb 5).trans rfl); (have hp0:ED.cell? ⟨w.heap.size,0,none⟩ = some (.int .i64 2):=(AA K5.out.pb 0).trans (congrArg (fun x => some (Value.int .i64 x)) Ez.out))))
 go_quiet ((go_at_call 79; refine (Eh _ _ _).mono fun _ _ hq => ⟨hq.1.trans (congrArg (fun x => Ending.returned (.int .u32 x)) HKK.out),_,hq.2.symm⟩))
 rename Nat => E5
 go_wp2_with fail
 have hSS:(ED.drewN E5).drew.heap[g]? = some (.cells (row (BD L) q o) 131 (0,0)):=(K5.out.drewN hB E5).at_.blk
 have hts:=(K5.out.drewN hB E5).drew hB
 clear KU QS hp0
 exact Z4
theorem PD {w:World} {B g:Nat} {Af Ac S:Nat → Prop} {L:Lk} {q o:Value} (h:At w B Af Ac g L q o) (hok:L.Ok) (hS:∀ k,holds Af Ac g k → S k) (hB:B ≤ w.heap.size) (AL:Int) (p:BJ) (Ab:Option Addr) (cb:Nat)
  (hb0:AL ≠ 0) (hbr:0 ≤ AL ∧ AL < 4294967296) (hpr:p.Jw) (hck:Ah p.kind p.mine p.AL p.yours p.seq p.AX p.stamp p.echo p.zr p.zi p.body.length = 0)  (Ci:L.phase = 2) (hag:Dj L AL p.mine = 0) (hmn:BU L p = true) (hpl:p.body.length ≤ 1000) {DI:Nat → Prop} (hR:(Kd.int .u8).R 5 w B DI (.slice Ab p.body.length cb) p.body) (hkp:∀ k,DI k → ¬ S k) (kn:Nat) (hkk:IntKind.u32.wrap (p.AX - L.base) = kn) (hkd:p.kind = 2) (JW:p.seq = L.expected) (h1k:1 ≤ kn) (hks:L.sent < (kn:Int)) :
  Calls Try.prog 34 #[.pointer (some ⟨g,0,none⟩),.int .u32 AL,.agg #[.int .i64 p.kind,.int .u32 p.mine,.int .u32 p.AL,.int .u32 p.yours,.int .u32 p.seq,.int .u32 p.AX,.int .u32 p.stamp,.int .u32 p.echo,.complex .f64 p.zr p.zi,.slice Ab p.body.length cb]] w fun e w' => Ei w B S g (emit_ (BD L) (MC (BD L))) true false false p.body e w':=by
 have GU:=Lib.hid (show (((w.alloc (.cells #[.int .i64 p.kind,.int .u32 p.mine,.int .u32 p.AL,.int .u32 p.yours,.int .u32 p.seq,.int .u32 p.AX,.int .u32 p.stamp,.int .u32 p.echo,.complex .f64 p.zr p.zi,.slice Ab p.body.length cb] 27)).alloc (.cells #[.bool false,.bool false,.bool false,.slice none 0 0] 56))).heap[w.heap.size]? = some (.cells #[.int .i64 p.kind,.int .u32 p.mine,.int .u32 p.AL,.int .u32 p.yours,.int .u32 p.seq,.int .u32 p.AX,.int .u32 p.stamp,.int .u32 p.echo,.complex .f64 p.zr p.zi,.slice Ab p.body.length cb] 27 (0,0)) from (Below.heap_alloc _ _ _ (by simp)).trans (heap_alloc_new w _))
 have H:=Lib.hid h
 have OK:=Lib.hid hok
 have HS:=Lib.hid hS
 have EN:=Lib.hid hpr
 have FK:=Lib.hid hck
 have hbz:(AL == 0) = false:=by simp [hb0]
 have ES:=Lib.hid Ci
 clear Ci
 have IQ:=Lib.hid hag
 clear hag
 have Ez:=Lib.hid hkd
 clear hkd
 clear hbr
 have I5:=Lib.hid hmn
 clear hmn
 have UN:=Lib.hid hR
 have UO:=Lib.hid hkp
 have KG:=Lib.hid hpl
 clear hR hkp hpl
 have HKK:=Lib.hid hkk
 clear hkk
 have hlb:=OK.out.sent
 have UQ:=OK.out.queue
 have hd6:(p.seq == L.expected) = true:=by simp [JW]
 clear JW
 have hd7:decide ((kn:Int) ≥ 1) = true:=by simp; omega
 have hd8:decide ((kn:Int) ≤ L.sent) = false:=by simp; omega
 have hw8:IntKind.u32.wrap L.sent = L.sent:=by rw [Jv]; omega
 clear h1k
 have O1:=Lib.hid hks
 clear hks
 clear h hok hS hpr hck hb0
 go_enter Try.func34,Try.ntmps34
 go_wp2_with fail
 refine Ap 3 (fun C HC => ?_)
 go_wp2_with (first | ((with_reducible refine AV (N:=17) rfl ?_); (refine wpList_load_row rfl 27 (.tmp 5) rfl w.heap.size (by rfl) 27 #[.int .i64 p.kind,.int .u32 p.mine,.int .u32 p.AL,.int .u32 p.yours,.int .u32 p.seq,.int .u32 p.AX,.int .u32 p.stamp,.int .u32 p.echo,.complex .f64 p.zr p.zi,.slice Ab p.body.length cb] (0,0) _ GU.out Try.underlying27 rfl (by kernel_rfl) ?_)) | (go_at_call 20; (refine (check_any _ _ _ _ _ _ _ _ _ _ _ _ _ _ EN.out.zr EN.out.zi).mono ?_); (rintro e BF ⟨rfl,hb⟩); (rw [FK.out]); (have K0:=Lib.hid (TS.start (pc:=#[.int .i64 p.kind,.int .u32 p.mine,.int .u32 p.AL,.int .u32 p.yours,.int .u32 p.seq,.int .u32 p.AX,.int .u32 p.stamp,.int .u32 p.echo,.complex .f64 p.zr p.zi,.slice Ab p.body.length cb]) H.out HS.out hB (hb.mono (by simp)))); (clear hb); (have hl1:BF.cell? ⟨g,1,none⟩ = some (.int .i64 2):=(AA K0.out.at_.blk 1).trans (congrArg (fun x => some (Value.int .i64 x)) ES.out)); (have hp0:BF.cell? ⟨w.heap.size,0,none⟩ = some (.int .i64 2):=(AA K0.out.pb 0).trans (congrArg (fun x => some (Value.int .i64 x)) Ez.out)); (have hp1:BF.cell? ⟨w.heap.size,1,none⟩ = some (.int .u32 p.mine):=(AA K0.out.pb 1).trans rfl)) | (go_at_call 76; (refine (C9 K0.out.at_ AL p.mine).mono ?_); (rintro e w1 ⟨rfl,rfl⟩); (rw [IQ.out])) | ((with_reducible refine AV (N:=59) rfl ?_); (refine Cf (by rfl) ?_); (refine wpList_load_row rfl 27 (.tmp 5) rfl w.heap.size (by rfl) 27 _ (0,0) _ (by first | exact K0.out.pb | exact (K0.out.drewN hB _).pb) Try.underlying27 rfl (by kernel_rfl) ?_)) | (go_at_call 77; (refine (DV K0.out.at_ p (.slice Ab p.body.length cb)).mono ?_); (rintro e Bl ⟨rfl,hb⟩); (have hme:BU (L) p = true:=I5.out); (rw [hme]); (clear hme); (have K1:=Lib.hid (K0.out.sub hB hb)); (clear hb); (clear hl1 hp0 hp1)) | ((with_reducible refine gate_ (.store 4 (.tmp 62) (.const (.bool true))) rfl ?_); (refine AY (fun wz => TS w B S g #[.int .i64 p.kind,.int .u32 p.mine,.int .u32 p.AL,.int .u32 p.yours,.int .u32 p.seq,.int .u32 p.AX,.int .u32 p.stamp,.int .u32 p.echo,.complex .f64 p.zr p.zi,.slice Ab p.body.length cb] Af Ac (fun _ => False) (L) q o true false false (.slice none 0 0) [] wz) rfl rfl ⟨_,(by have hz1:World.cell? Bl ⟨w.heap.size + 1,0,none⟩ = some _:=(AA K1.out.tb 0).trans rfl; have hz2:=AB K1.out.tb 0; first | (go_simp; done) | (go_simp; rfl)),TS.EY K1.out hB 0 _ rfl⟩ (fun BG hF => ?_)); (have K2:=Lib.hid hF); (clear hF); (have MS:BG.cell? ⟨g,9,none⟩ = some (.int .u32 L.expected):=(AA K2.out.at_.blk 9).trans rfl); (have hp0:BG.cell? ⟨w.heap.size,0,none⟩ = some (.int .i64 2):=(AA K2.out.pb 0).trans (congrArg (fun x => some (Value.int .i64 x)) Ez.out)); (have Kt:BG.cell? ⟨w.heap.size,4,none⟩ = some (.int .u32 p.seq):=(AA K2.out.pb 4).trans rfl)))
 refine wp_goto ?_
 refine Jump.goto HC.out rfl ?_
 go_wp2_with fail
 go_quiet (fail)
 rename Nat => F9
 go_wp2_with (first | ((with_reducible refine gate_ (.store 24 (.tmp 131) (.tmp 129)) rfl ?_); (refine AY (fun wz => TS w B S g #[.int .i64 p.kind,.int .u32 p.mine,.int .u32 p.AL,.int .u32 p.yours,.int .u32 p.seq,.int .u32 p.AX,.int .u32 p.stamp,.int .u32 p.echo,.complex .f64 p.zr p.zi,.slice Ab p.body.length cb] Af Ac (fun _ => False) (BD L) q o true false false (.slice none 0 0) [] wz) rfl rfl ⟨_,(by have hz1:World.cell? BG ⟨g,9,none⟩ = some _:=(AA K2.out.at_.blk 9).trans rfl; have hz2:=AB K2.out.at_.blk 9; first | (go_simp; done) | (go_simp; rfl)),TS.Dz (K2.out.drewN hB F9) hB 9 _ rfl rfl rfl⟩ (fun CJ hF => ?_)); (have K3:=Lib.hid hF); (clear hF); (clear MS hp0 Kt); (have Zy:CJ.cell? ⟨w.heap.size,9,none⟩ = some (.slice Ab p.body.length cb):=(AA K3.out.pb 9).trans rfl)) | ((with_reducible refine AV (N:=134) rfl ?_); (refine Kd.Fb (Kd.int .u8) (Rr:=fun x cs => cs = [Value.int .u8 x]) (w0:=w) (W:=CJ) B rfl (.const (.slice none 0 0)) (.tmp 133) 22 5 (.int .u8 0) 1 rfl Try.underlying22 Ju rfl (by decide) (by decide) (.slice none 0 0) [] p.body Ab p.body.length cb (fun k => CJ.heap.size ≤ k) (fun _ => False) rfl rfl (Kd.Cc _ _ _ _ _) (Kd.D9 (Kd.BI UN.out K3.out.kept UO.out)).2.2 (fun _ _ hx => hx) (fun _ hf => hf.elim) (fun k hk => hk) K3.out.below (Nat.le_trans hB K3.out.kept.1) (by have:=KG.out; simp; omega) ?_); (intro v1 Dl hR hbl hg _); (obtain ⟨A1,c1,hv1⟩:=Kd.Am hR); (subst hv1); (have hF:=TS.grow K3.out hB (⟨hg.os,hg.tape,hg.output,hg.size,fun k hk => hg.block k hk (by simp [Value.ownBlock])⟩:Below CJ.heap.size CJ Dl) hR); (have K4:=Lib.hid hF.1); (have XK:=Lib.hid hF.2); (clear hF hR hbl hg); (clear Zy)) | ((with_reducible refine gate_ (.store 22 (.tmp 135) (.tmp 134)) rfl ?_); (refine AY (fun wz => TS w B S g #[.int .i64 p.kind,.int .u32 p.mine,.int .u32 p.AL,.int .u32 p.yours,.int .u32 p.seq,.int .u32 p.AX,.int .u32 p.stamp,.int .u32 p.echo,.complex .f64 p.zr p.zi,.slice Ab p.body.length cb] Af Ac (fun k => CJ.heap.size ≤ k ∧ k < Dl.heap.size) (BD L) q o true false false ((.slice A1 ([] ++ p.body).length c1)) p.body wz) rfl rfl ⟨_,(by have hz1:World.cell? Dl ⟨w.heap.size + 1,3,none⟩ = some _:=(AA K4.out.tb 3).trans rfl; have hz2:=AB K4.out.tb 3; first | (go_simp; done) | (go_simp; rfl)),K4.out.Ip hB (Steps.At.set (Steps.At.refl _ _) 3 _) (AQ K4.out.tb 3 _ rfl) XK.out.1 XK.out.2⟩ (fun ED hF => ?_)); (have K5:=Lib.hid hF); (clear hF); (have KU:ED.cell? ⟨g,8,none⟩ = some (.int .u32 L.base):=(AA K5.out.at_.blk 8).trans rfl); (have He:ED.cell? ⟨g,7,none⟩ = some (.int .i64 L.sent):=(AA K5.out.at_.blk 7).trans rfl); (have QS:ED.cell? ⟨w.heap.size,5,none⟩ = some (.int .u32 p.AX):=(AA K5.out.pb 5).trans rfl); (have hp0:ED.cell? ⟨w.heap.size,0,none⟩ = some (.int .i64 2):=(AA K5.out.pb 0).trans (congrArg (fun x => some (Value.int .i64 x)) Ez.out))))
 go_quiet ((go_at_call 79; refine (Eh _ _ _).mono fun _ _ hq => ⟨hq.1.trans (congrArg (fun x => Ending.returned (.int .u32 x)) HKK.out),_,hq.2.symm⟩))
 rename Nat => E5
 go_wp2_with fail
 have hSS:(ED.drewN E5).drew.heap[g]? = some (.cells (row (BD L) q o) 131 (0,0)):=(K5.out.drewN hB E5).at_.blk
 have hts:=(K5.out.drewN hB E5).drew hB
 clear KU He QS hp0
 exact Z4
end Go.Proofs.Ytnkkgofpifhoeaa.Lk
end
