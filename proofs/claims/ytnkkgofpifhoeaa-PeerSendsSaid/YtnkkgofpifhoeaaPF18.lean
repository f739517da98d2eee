/- What the laws of a pair are proved with: links and pairs in memory, what their methods do, what a pair keeps to (part 18). -/
import Derived.Test.YtnkkgofpifhoeaaPF14
set_option linter.unusedSimpArgs false
set_option linter.unusedVariables false
set_option maxRecDepth 100000
set_option maxHeartbeats 16000000
namespace Go.Proofs.Ytnkkgofpifhoeaa
theorem Z3 {p:Prop} (h:p:=by
 refine BC (n:=19) (S:=fun w' => w'.heap[g]? = some (.cells (row (BB L) q o) 131 (0,0))) (ds:=[18]) Yu (by kernel_rfl) rfl rfl (hSS) (fun hHeld => ?_)
 generalize (D5.drewN Eh).drew = qO at hts hHeld ⊢
 have dh:=Lib.hid hts
 clear hts hSS
 have Um:=Lib.hid (Ef (⟨3,(BB L).token,(BB L).AL,(BB L).yours,0,(BB L).expected,0,0,0,0,[]⟩:BL) (.slice none 0 0) dh.out.at_ (JC OK.out) (Nat.le_trans hB dh.out.kept.1) (C9:=fun _ => False) (F6.2 ⟨_,rfl,Kd.CZ _ _ _ _ _⟩) (fun _ hk => hk.elim))
 refine pu 0 188 Yv ?_
 refine pu 1 189 Yw ?_
 refine pu 2 190 Yx ?_
 refine pu 3 191 Yy ?_
 refine tk 4 192 Yz hHeld ?_ (hf:=by intro w' s0; have hc2:w'.cell? ⟨g,2,none⟩ = some (.int .u32 (BB L).token):=(AA s0 2).trans rfl; clear s0; go_simp; with_reducible rfl)
 refine pu 5 193 Y0 ?_
 refine pu 6 194 Y1 ?_
 refine pu 7 195 Y2 ?_
 refine tk 8 196 Y3 hHeld ?_ (hf:=by intro w' s0; have hc3:w'.cell? ⟨g,3,none⟩ = some (.int .u32 (BB L).AL):=(AA s0 3).trans rfl; clear s0; go_simp; with_reducible rfl)
 refine pu 9 197 Y4 ?_
 refine pu 10 198 Y5 ?_
 refine pu 11 199 Y6 ?_
 refine tk 12 200 Y7 hHeld ?_ (hf:=by intro w' s0; have hc4:w'.cell? ⟨g,4,none⟩ = some (.int .u32 (BB L).yours):=(AA s0 4).trans rfl; clear s0; go_simp; with_reducible rfl)
 refine pu 13 201 Y8 ?_
 refine pu 14 202 Y9 ?_
 refine pu 15 203 ZA ?_
 refine tk 16 204 ZB hHeld ?_ (hf:=by intro w' s0; have Gv:w'.cell? ⟨g,9,none⟩ = some (.int .u32 (BB L).expected):=(AA s0 9).trans rfl; clear s0; go_simp; with_reducible rfl)
 refine pu 17 205 ZC ?_ (hy:=by intro w'; have DV:=Try.underlying27; go_simp; rfl)
 refine la 18 (some 206) ZE fun K hK => ?_
 refine BR Try.func80 (by kernel_rfl) rfl #[.pointer (some ⟨g,0,none⟩),.agg #[.int .i64 3,.int .u32 (BB L).token,.int .u32 (BB L).AL,.int .u32 (BB L).yours,.int .u32 0,.int .u32 (BB L).expected,.int .u32 0,.int .u32 0,.complex .f64 0 0,.slice none 0 0]] (by rfl) rfl rfl (by (try simp only [List.map_toArray,List.map_cons,List.map_nil]); first | done | rfl) ?_
 refine Um.out.mono ?_
 rintro e Gq ⟨rfl,hE⟩
 obtain ⟨N7,SB,hF⟩:=TS.GM dh.out hB hE
 have K7:=Lib.hid hF
 clear hE hF
 refine ⟨_,rfl,?_⟩
 refine hK.out _ _ ?_
 clear hK K
 refine BU (by kernel_rfl) ?_
 go_wp2_with fail
 refine wp_label ?_
 go_wp2_with (first | ((with_reducible refine AV (N:=207) rfl ?_); (refine wpList_load_row rfl 56 (.tmp 6) rfl (w.heap.size + 1) (by rfl) 56 _ (0,0) _ (by first | exact K7.out.tb | exact (K7.out.drewN hB _).tb) Try.underlying56 rfl (by kernel_rfl) ?_)) | ((with_reducible refine gate_ (.store 56 (.tmp 6) (.tmp 207)) rfl ?_); (refine Ae rfl rfl 56 (.tmp 6) (.tmp 207) rfl (w.heap.size + 1) _ rfl rfl 56 _ (by first | exact K7.out.tb | exact (K7.out.drewN hB _).tb) (by kernel_rfl) rfl (by kernel_rfl) ?_); (intro MC ED D7); (have hF:=TS.IA (by first | exact K7.out | exact K7.out.drewN hB _ | exact K7.out.drew hB) hB D7 ED (by first | exact K7.out.Ea | exact (K7.out.drewN hB _).Ea) (by first | exact K7.out.okb | exact (K7.out.drewN hB _).okb)); (have K8:=Lib.hid hF); (clear hF ED D7)))
 refine Jump.ret ?_
 refine bodyPost_ret ?_ rfl (K8.out.ends)
 exact Ag Try.results34 _ _ rfl rfl (run_loadVar_row (P:=Try.prog) _ (w.heap.size + 1) 56 56 _ (0,0) _ K8.out.tb Try.underlying56 rfl (by kernel_rfl))):p:=h
end Go.Proofs.Ytnkkgofpifhoeaa
section
namespace Go.Proofs.Ytnkkgofpifhoeaa.Lk
open Go.RowKit Go.Proofs.Ytnkkgofpifhoeaa.Base Go.Proofs.Ytnkkgofpifhoeaa.Steps Go.Proofs.Ytnkkgofpifhoeaa.Pk Go.Proofs.Ytnkkgofpifhoeaa.X6 Go.Proofs.YtnkkgofpifhoeaaW.PrintWords Go.Proofs.YtnkkgofpifhoeaaW.PrintLast
theorem OH {w:World} {B g:Nat} {Af Ac S:Nat → Prop} {L:Lk} {q o:Value} (h:At w B Af Ac g L q o) (hok:L.Ok) (hS:∀ k,holds Af Ac g k → S k) (hB:B ≤ w.heap.size) (AL:Int) (p:BL) (Ab:Option Addr) (cb:Nat)
  (hb0:AL ≠ 0) (hbr:0 ≤ AL ∧ AL < 4294967296) (hpr:p.JV) (hck:Aj p.kind p.mine p.AL p.yours p.seq p.AX p.stamp p.echo p.zr p.zi p.body.length = 0)  (DX:L.phase = 2) (hag:CX L AL p.mine = 0) (hmn:BQ L p = true) (hpl:p.body.length ≤ 1000) {C9:Nat → Prop} (hR:(Kd.int .u8).R 5 w B C9 (.slice Ab p.body.length cb) p.body) (hkp:∀ k,C9 k → ¬ S k) (kn:Nat) (hkk:IntKind.u32.wrap (p.AX - L.base) = kn) (hkd:p.kind = 2) (Iw:p.seq = L.expected) (h1k:1 ≤ kn) (hks:(kn:Int) ≤ L.sent) :
  Calls Try.prog 34 #[.pointer (some ⟨g,0,none⟩),.int .u32 AL,.agg #[.int .i64 p.kind,.int .u32 p.mine,.int .u32 p.AL,.int .u32 p.yours,.int .u32 p.seq,.int .u32 p.AX,.int .u32 p.stamp,.int .u32 p.echo,.complex .f64 p.zr p.zi,.slice Ab p.body.length cb]] w fun e w' => EW w B S g (emit_ (BP (Cb (BB L) kn)) (LK (BP (Cb (BB L) kn)))) true false false p.body e w':=by
 have Fh:=Lib.hid (show (((w.alloc (.cells #[.int .i64 p.kind,.int .u32 p.mine,.int .u32 p.AL,.int .u32 p.yours,.int .u32 p.seq,.int .u32 p.AX,.int .u32 p.stamp,.int .u32 p.echo,.complex .f64 p.zr p.zi,.slice Ab p.body.length cb] 27)).alloc (.cells #[.bool false,.bool false,.bool false,.slice none 0 0] 56))).heap[w.heap.size]? = some (.cells #[.int .i64 p.kind,.int .u32 p.mine,.int .u32 p.AL,.int .u32 p.yours,.int .u32 p.seq,.int .u32 p.AX,.int .u32 p.stamp,.int .u32 p.echo,.complex .f64 p.zr p.zi,.slice Ab p.body.length cb] 27 (0,0)) from (Below.heap_alloc _ _ _ (by simp)).trans (heap_alloc_new w _))
 have H:=Lib.hid h
 have OK:=Lib.hid hok
 have HS:=Lib.hid hS
 have EF:=Lib.hid hpr
 have Es:=Lib.hid hck
 have hbz:(AL == 0) = false:=by simp [hb0]
 have EO:=Lib.hid DX
 clear DX
 have G7:=Lib.hid hag
 clear hag
 have Eg:=Lib.hid hkd
 clear hkd
 clear hbr
 have IJ:=Lib.hid hmn
 clear hmn
 have SH:=Lib.hid hR
 have SK:=Lib.hid hkp
 have QJ:=Lib.hid hpl
 clear hR hkp hpl
 have HKK:=Lib.hid hkk
 clear hkk
 have hlb:=OK.out.sent
 have SN:=OK.out.queue
 have hd6:(p.seq == L.expected) = true:=by simp [Iw]
 clear Iw
 have hd7:decide ((kn:Int) ≥ 1) = true:=by simp; omega
 have hd8:decide ((kn:Int) ≤ L.sent) = true:=by simp; omega
 have hw8:IntKind.u32.wrap L.sent = L.sent:=by rw [Gw]; omega
 clear h1k
 have QK:=Lib.hid hks
 clear hks
 obtain ⟨A6,c6,hq6,J8⟩:=Kd.E5 h.queue
 subst hq6
 have SQ:=Lib.hid (show kn ≤ L.queue.length by have:=QK.out; omega)
 have hsl:=LJ A6 L.queue.length c6 kn SQ.out J8
 obtain ⟨A7,QL⟩:∃ A,A = (if c6 = kn then A6 else A6.map (·.add (kn * bytes.sz))):=⟨_,rfl⟩
 rw [← QL] at hsl
 have X8:=Lib.hid QL
 clear QL
 clear J8
 have hkq:=SQ.out
 generalize Qo:L.queue.length = qn at H hsl hkq hlb SN
 have X0:=Lib.hid Qo
 clear Qo
 have hc4:kn < 4294967296:=by omega
 clear h hok hS hpr hck hb0
 go_enter Try.func34,Try.ntmps34
 go_wp2_with fail
 refine Ap 3 (fun C HC => ?_)
 go_wp2_with (first | ((with_reducible refine AV (N:=17) rfl ?_); (refine wpList_load_row rfl 27 (.tmp 5) rfl w.heap.size (by rfl) 27 #[.int .i64 p.kind,.int .u32 p.mine,.int .u32 p.AL,.int .u32 p.yours,.int .u32 p.seq,.int .u32 p.AX,.int .u32 p.stamp,.int .u32 p.echo,.complex .f64 p.zr p.zi,.slice Ab p.body.length cb] (0,0) _ Fh.out Try.underlying27 rfl (by kernel_rfl) ?_)) | (go_at_call 20; (refine (check_any _ _ _ _ _ _ _ _ _ _ _ _ _ _ EF.out.zr EF.out.zi).mono ?_); (rintro e BH ⟨rfl,hb⟩); (rw [Es.out]); (have K0:=Lib.hid (TS.start (pc:=#[.int .i64 p.kind,.int .u32 p.mine,.int .u32 p.AL,.int .u32 p.yours,.int .u32 p.seq,.int .u32 p.AX,.int .u32 p.stamp,.int .u32 p.echo,.complex .f64 p.zr p.zi,.slice Ab p.body.length cb]) H.out HS.out hB (hb.mono (by simp)))); (clear hb); (have hl1:BH.cell? ⟨g,1,none⟩ = some (.int .i64 2):=(AA K0.out.at_.blk 1).trans (congrArg (fun x => some (Value.int .i64 x)) EO.out)); (have hp0:BH.cell? ⟨w.heap.size,0,none⟩ = some (.int .i64 2):=(AA K0.out.pb 0).trans (congrArg (fun x => some (Value.int .i64 x)) Eg.out)); (have hp1:BH.cell? ⟨w.heap.size,1,none⟩ = some (.int .u32 p.mine):=(AA K0.out.pb 1).trans rfl)) | (go_at_call 76; (refine (Ci K0.out.at_ AL p.mine).mono ?_); (rintro e w1 ⟨rfl,rfl⟩); (rw [G7.out])) | ((with_reducible refine AV (N:=59) rfl ?_); (refine Ce (by rfl) ?_); (refine wpList_load_row rfl 27 (.tmp 5) rfl w.heap.size (by rfl) 27 _ (0,0) _ (by first | exact K0.out.pb | exact (K0.out.drewN hB _).pb) Try.underlying27 rfl (by kernel_rfl) ?_)) | (go_at_call 77; (refine (DL K0.out.at_ p (.slice Ab p.body.length cb)).mono ?_); (rintro e CQ ⟨rfl,hb⟩); (have hme:BQ (L) p = true:=IJ.out); (rw [hme]); (clear hme); (have K1:=Lib.hid (K0.out.sub hB hb)); (clear hb); (clear hl1 hp0 hp1)) | ((with_reducible refine gate_ (.store 4 (.tmp 62) (.const (.bool true))) rfl ?_); (refine AZ (fun wz => TS w B S g #[.int .i64 p.kind,.int .u32 p.mine,.int .u32 p.AL,.int .u32 p.yours,.int .u32 p.seq,.int .u32 p.AX,.int .u32 p.stamp,.int .u32 p.echo,.complex .f64 p.zr p.zi,.slice Ab p.body.length cb] Af Ac (fun _ => False) (L) (.slice A6 qn c6) o true false false (.slice none 0 0) [] wz) rfl rfl ⟨_,(by have hz1:World.cell? CQ ⟨w.heap.size + 1,0,none⟩ = some _:=(AA K1.out.tb 0).trans rfl; have hz2:=AB K1.out.tb 0; first | (go_simp; done) | (go_simp; rfl)),TS.EK K1.out hB 0 _ rfl⟩ (fun BM hF => ?_)); (have K2:=Lib.hid hF); (clear hF); (have Lh:BM.cell? ⟨g,9,none⟩ = some (.int .u32 L.expected):=(AA K2.out.at_.blk 9).trans rfl); (have hp0:BM.cell? ⟨w.heap.size,0,none⟩ = some (.int .i64 2):=(AA K2.out.pb 0).trans (congrArg (fun x => some (Value.int .i64 x)) Eg.out)); (have J9:BM.cell? ⟨w.heap.size,4,none⟩ = some (.int .u32 p.seq):=(AA K2.out.pb 4).trans rfl)))
 refine wp_goto ?_
 refine Jump.goto HC.out rfl ?_
 go_wp2_with fail
 go_quiet (fail)
 rename Nat => FY
 go_wp2_with (first | ((with_reducible refine gate_ (.store 24 (.tmp 131) (.tmp 129)) rfl ?_); (refine AZ (fun wz => TS w B S g #[.int .i64 p.kind,.int .u32 p.mine,.int .u32 p.AL,.int .u32 p.yours,.int .u32 p.seq,.int .u32 p.AX,.int .u32 p.stamp,.int .u32 p.echo,.complex .f64 p.zr p.zi,.slice Ab p.body.length cb] Af Ac (fun _ => False) (BB L) (.slice A6 qn c6) o true false false (.slice none 0 0) [] wz) rfl rfl ⟨_,(by have hz1:World.cell? BM ⟨g,9,none⟩ = some _:=(AA K2.out.at_.blk 9).trans rfl; have hz2:=AB K2.out.at_.blk 9; first | (go_simp; done) | (go_simp; rfl)),TS.Dt (K2.out.drewN hB FY) hB 9 _ rfl rfl rfl⟩ (fun CE hF => ?_)); (have K3:=Lib.hid hF); (clear hF); (clear Lh hp0 J9); (have X9:CE.cell? ⟨w.heap.size,9,none⟩ = some (.slice Ab p.body.length cb):=(AA K3.out.pb 9).trans rfl)) | ((with_reducible refine AV (N:=134) rfl ?_); (refine Kd.FH (Kd.int .u8) (Rr:=fun x cs => cs = [Value.int .u8 x]) (w0:=w) (W:=CE) B rfl (.const (.slice none 0 0)) (.tmp 133) 22 5 (.int .u8 0) 1 rfl Try.underlying22 JU rfl (by decide) (by decide) (.slice none 0 0) [] p.body Ab p.body.length cb (fun k => CE.heap.size ≤ k) (fun _ => False) rfl rfl (Kd.CZ _ _ _ _ _) (Kd.Dx (Kd.BJ SH.out K3.out.kept SK.out)).2.2 (fun _ _ hx => hx) (fun _ hf => hf.elim) (fun k hk => hk) K3.out.below (Nat.le_trans hB K3.out.kept.1) (by have:=QJ.out; simp; omega) ?_); (intro v1 DW hR hbl hg _); (obtain ⟨A1,c1,hv1⟩:=Kd.BA hR); (subst hv1); (have hF:=TS.grow K3.out hB (⟨hg.os,hg.tape,hg.output,hg.size,fun k hk => hg.block k hk (by simp [Value.ownBlock])⟩:Below CE.heap.size CE DW) hR); (have K4:=Lib.hid hF.1); (have VL:=Lib.hid hF.2); (clear hF hR hbl hg); (clear X9)) | ((with_reducible refine gate_ (.store 22 (.tmp 135) (.tmp 134)) rfl ?_); (refine AZ (fun wz => TS w B S g #[.int .i64 p.kind,.int .u32 p.mine,.int .u32 p.AL,.int .u32 p.yours,.int .u32 p.seq,.int .u32 p.AX,.int .u32 p.stamp,.int .u32 p.echo,.complex .f64 p.zr p.zi,.slice Ab p.body.length cb] Af Ac (fun k => CE.heap.size ≤ k ∧ k < DW.heap.size) (BB L) (.slice A6 qn c6) o true false false ((.slice A1 ([] ++ p.body).length c1)) p.body wz) rfl rfl ⟨_,(by have hz1:World.cell? DW ⟨w.heap.size + 1,3,none⟩ = some _:=(AA K4.out.tb 3).trans rfl; have hz2:=AB K4.out.tb 3; first | (go_simp; done) | (go_simp; rfl)),K4.out.IA hB (Steps.At.set (Steps.At.refl _ _) 3 _) (AQ K4.out.tb 3 _ rfl) VL.out.1 VL.out.2⟩ (fun D5 hF => ?_)); (have K5:=Lib.hid hF); (clear hF); (have J3:D5.cell? ⟨g,8,none⟩ = some (.int .u32 L.base):=(AA K5.out.at_.blk 8).trans rfl); (have J8:D5.cell? ⟨g,6,none⟩ = some ((.slice A6 qn c6)):=(AA K5.out.at_.blk 6).trans rfl); (have JW:D5.cell? ⟨g,7,none⟩ = some (.int .i64 L.sent):=(AA K5.out.at_.blk 7).trans rfl); (have PE:D5.cell? ⟨w.heap.size,5,none⟩ = some (.int .u32 p.AX):=(AA K5.out.pb 5).trans rfl); (have hp0:D5.cell? ⟨w.heap.size,0,none⟩ = some (.int .i64 2):=(AA K5.out.pb 0).trans (congrArg (fun x => some (Value.int .i64 x)) Eg.out))))
 go_quiet ((go_at_call 79; refine (EU _ _ _).mono fun _ _ hq => ⟨hq.1.trans (congrArg (fun x => Ending.returned (.int .u32 x)) HKK.out),_,hq.2.symm⟩))
 rename Nat => Eh
 go_wp2_with (first | ((with_reducible refine gate_ (.store 45 (.tmp 162) (.tmp 160)) rfl ?_); (refine AZ (fun wz => TS w B S g #[.int .i64 p.kind,.int .u32 p.mine,.int .u32 p.AL,.int .u32 p.yours,.int .u32 p.seq,.int .u32 p.AX,.int .u32 p.stamp,.int .u32 p.echo,.complex .f64 p.zr p.zi,.slice Ab p.body.length cb] Af Ac (fun k => CE.heap.size ≤ k ∧ k < DW.heap.size) ({ BB L with queue:=(BB L).queue.drop kn }) (.slice A7 (qn - kn) (c6 - kn)) o true false false ((.slice A1 ([] ++ p.body).length c1)) p.body wz) rfl rfl ⟨_,(by have hz1:World.cell? D5 ⟨g,6,none⟩ = some _:=(AA K5.out.at_.blk 6).trans rfl; have hz2:=AB K5.out.at_.blk 6; first | (go_simp; done) | (go_simp; rfl)),TS.cut (K5.out.drewN hB Eh) hB rfl SQ.out X8.out⟩ (fun G5 hF => ?_)); (have K6:=Lib.hid hF); (clear hF); (clear J3 J8 JW PE hp0); (have J3:G5.cell? ⟨g,8,none⟩ = some (.int .u32 L.base):=(AA K6.out.at_.blk 8).trans rfl); (have JW:G5.cell? ⟨g,7,none⟩ = some (.int .i64 L.sent):=(AA K6.out.at_.blk 7).trans rfl); (have hp0:G5.cell? ⟨w.heap.size,0,none⟩ = some (.int .i64 2):=(AA K6.out.pb 0).trans (congrArg (fun x => some (Value.int .i64 x)) Eg.out))) | ((with_reducible refine gate_ (.store 24 (.tmp 170) (.tmp 168)) rfl ?_); (have hT:TS w B S g #[.int .i64 p.kind,.int .u32 p.mine,.int .u32 p.AL,.int .u32 p.yours,.int .u32 p.seq,.int .u32 p.AX,.int .u32 p.stamp,.int .u32 p.echo,.complex .f64 p.zr p.zi,.slice Ab p.body.length cb] Af Ac (fun k => CE.heap.size ≤ k ∧ k < DW.heap.size) ({ BB L with queue:=(BB L).queue.drop kn,base:=IntKind.u32.wrap (L.base + kn) }) (.slice A7 (qn - kn) (c6 - kn)) o true false false ((.slice A1 ([] ++ p.body).length c1)) p.body (World.setCell G5 ⟨g,8,none⟩ (.int .u32 (IntKind.u32.wrap (L.base + kn)))):=TS.Dt K6.out hB 8 (.int .u32 (IntKind.u32.wrap (L.base + kn))) rfl rfl rfl); (refine AZ (fun wz => TS w B S g #[.int .i64 p.kind,.int .u32 p.mine,.int .u32 p.AL,.int .u32 p.yours,.int .u32 p.seq,.int .u32 p.AX,.int .u32 p.stamp,.int .u32 p.echo,.complex .f64 p.zr p.zi,.slice Ab p.body.length cb] Af Ac (fun k => CE.heap.size ≤ k ∧ k < DW.heap.size) ({ BB L with queue:=(BB L).queue.drop kn,base:=IntKind.u32.wrap (L.base + kn) }) (.slice A7 (qn - kn) (c6 - kn)) o true false false ((.slice A1 ([] ++ p.body).length c1)) p.body wz) rfl rfl ⟨_,(by have hz1:World.cell? G5 ⟨g,8,none⟩ = some _:=(AA K6.out.at_.blk 8).trans rfl; have hz2:=AB K6.out.at_.blk 8; first | (go_simp; done) | (go_simp; rfl)),hT⟩ (fun Gq hF => ?_)); (have K7:=Lib.hid hF); (clear hF hT); (clear J3 JW hp0); (have JW:Gq.cell? ⟨g,7,none⟩ = some (.int .i64 L.sent):=(AA K7.out.at_.blk 7).trans rfl); (have hp0:Gq.cell? ⟨w.heap.size,0,none⟩ = some (.int .i64 2):=(AA K7.out.pb 0).trans (congrArg (fun x => some (Value.int .i64 x)) Eg.out))) | ((with_reducible refine gate_ (.store 3 (.tmp 179) (.tmp 177)) rfl ?_); (have hT:TS w B S g #[.int .i64 p.kind,.int .u32 p.mine,.int .u32 p.AL,.int .u32 p.yours,.int .u32 p.seq,.int .u32 p.AX,.int .u32 p.stamp,.int .u32 p.echo,.complex .f64 p.zr p.zi,.slice Ab p.body.length cb] Af Ac (fun k => CE.heap.size ≤ k ∧ k < DW.heap.size) ({ BB L with queue:=(BB L).queue.drop kn,base:=IntKind.u32.wrap (L.base + kn),sent:=L.sent - kn }) (.slice A7 (qn - kn) (c6 - kn)) o true false false ((.slice A1 ([] ++ p.body).length c1)) p.body (World.setCell Gq ⟨g,7,none⟩ (.int .i64 (L.sent - kn))):=TS.Dt K7.out hB 7 (.int .i64 (L.sent - kn)) rfl rfl rfl); (refine AZ (fun wz => TS w B S g #[.int .i64 p.kind,.int .u32 p.mine,.int .u32 p.AL,.int .u32 p.yours,.int .u32 p.seq,.int .u32 p.AX,.int .u32 p.stamp,.int .u32 p.echo,.complex .f64 p.zr p.zi,.slice Ab p.body.length cb] Af Ac (fun k => CE.heap.size ≤ k ∧ k < DW.heap.size) ({ BB L with queue:=(BB L).queue.drop kn,base:=IntKind.u32.wrap (L.base + kn),sent:=L.sent - kn }) (.slice A7 (qn - kn) (c6 - kn)) o true false false ((.slice A1 ([] ++ p.body).length c1)) p.body wz) rfl rfl ⟨_,(by have hz1:World.cell? Gq ⟨g,7,none⟩ = some _:=(AA K7.out.at_.blk 7).trans rfl; have hz2:=AB K7.out.at_.blk 7; first | (go_simp; done) | (go_simp; rfl)),hT⟩ (fun MC hF => ?_)); (have K8:=Lib.hid hF); (clear hF hT); (clear JW hp0); (have hp0:MC.cell? ⟨w.heap.size,0,none⟩ = some (.int .i64 2):=(AA K8.out.pb 0).trans (congrArg (fun x => some (Value.int .i64 x)) Eg.out))) | ((with_reducible refine gate_ (.store 3 (.tmp 182) (.const (.int .i64 0))) rfl ?_); (have hT:TS w B S g #[.int .i64 p.kind,.int .u32 p.mine,.int .u32 p.AL,.int .u32 p.yours,.int .u32 p.seq,.int .u32 p.AX,.int .u32 p.stamp,.int .u32 p.echo,.complex .f64 p.zr p.zi,.slice Ab p.body.length cb] Af Ac (fun k => CE.heap.size ≤ k ∧ k < DW.heap.size) (Cb (BB L) kn) (.slice A7 (qn - kn) (c6 - kn)) o true false false ((.slice A1 ([] ++ p.body).length c1)) p.body (World.setCell MC ⟨g,10,none⟩ (.int .i64 0)):=TS.Dt K8.out hB 10 (.int .i64 0) rfl rfl rfl); (refine AZ (fun wz => TS w B S g #[.int .i64 p.kind,.int .u32 p.mine,.int .u32 p.AL,.int .u32 p.yours,.int .u32 p.seq,.int .u32 p.AX,.int .u32 p.stamp,.int .u32 p.echo,.complex .f64 p.zr p.zi,.slice Ab p.body.length cb] Af Ac (fun k => CE.heap.size ≤ k ∧ k < DW.heap.size) (Cb (BB L) kn) (.slice A7 (qn - kn) (c6 - kn)) o true false false ((.slice A1 ([] ++ p.body).length c1)) p.body wz) rfl rfl ⟨_,(by have hz1:World.cell? MC ⟨g,10,none⟩ = some _:=(AA K8.out.at_.blk 10).trans rfl; have hz2:=AB K8.out.at_.blk 10; first | (go_simp; done) | (go_simp; rfl)),hT⟩ (fun Ur hF => ?_)); (have K9:=Lib.hid hF); (clear hF hT); (clear hp0); (have hp0:Ur.cell? ⟨w.heap.size,0,none⟩ = some (.int .i64 2):=(AA K9.out.pb 0).trans (congrArg (fun x => some (Value.int .i64 x)) Eg.out))) | (go_at_call 74; (refine (JB K9.out.at_ (IU (JC OK.out) QK.out) (Nat.le_trans hB K9.out.kept.1)).mono ?_); (rintro e PD ⟨rfl,hE⟩); (obtain ⟨aN,VM,hF⟩:=TS.GM K9.out hB hE); (clear hE); (have K10:=Lib.hid hF); (clear hF); (clear hp0); (have hp0:PD.cell? ⟨w.heap.size,0,none⟩ = some (.int .i64 2):=(AA K10.out.pb 0).trans (congrArg (fun x => some (Value.int .i64 x)) Eg.out))))
 have hSS:PD.drew.heap[g]? = some (.cells (row (BP (Cb (BB L) kn)) (.slice A7 (qn - kn) (c6 - kn)) VM) 131 (0,0)):=K10.out.at_.blk
 have hts:=K10.out.drew hB
 clear hp0
 refine BC (n:=19) (S:=fun w' => w'.heap[g]? = some (.cells (row (BP (Cb (BB L) kn)) (.slice A7 (qn - kn) (c6 - kn)) VM) 131 (0,0))) (ds:=[18]) Yu (by kernel_rfl) rfl rfl (hSS) (fun hHeld => ?_)
 generalize PD.drew = jW at hts hHeld ⊢
 have WG:=Lib.hid hts
 clear hts hSS
 have Um:=Lib.hid (Ef (⟨3,(BP (Cb (BB L) kn)).token,(BP (Cb (BB L) kn)).AL,(BP (Cb (BB L) kn)).yours,0,(BP (Cb (BB L) kn)).expected,0,0,0,0,[]⟩:BL) (.slice none 0 0) WG.out.at_ (O9 (IU (JC OK.out) QK.out)) (Nat.le_trans hB WG.out.kept.1) (C9:=fun _ => False) (F6.2 ⟨_,rfl,Kd.CZ _ _ _ _ _⟩) (fun _ hk => hk.elim))
 refine pu 0 188 Yv ?_
 refine pu 1 189 Yw ?_
 refine pu 2 190 Yx ?_
 refine pu 3 191 Yy ?_
 refine tk 4 192 Yz hHeld ?_ (hf:=by intro w' s0; have hc2:w'.cell? ⟨g,2,none⟩ = some (.int .u32 (BP (Cb (BB L) kn)).token):=(AA s0 2).trans rfl; clear s0; go_simp; with_reducible rfl)
 refine pu 5 193 Y0 ?_
 refine pu 6 194 Y1 ?_
 refine pu 7 195 Y2 ?_
 refine tk 8 196 Y3 hHeld ?_ (hf:=by intro w' s0; have hc3:w'.cell? ⟨g,3,none⟩ = some (.int .u32 (BP (Cb (BB L) kn)).AL):=(AA s0 3).trans rfl; clear s0; go_simp; with_reducible rfl)
 refine pu 9 197 Y4 ?_
 refine pu 10 198 Y5 ?_
 refine pu 11 199 Y6 ?_
 refine tk 12 200 Y7 hHeld ?_ (hf:=by intro w' s0; have hc4:w'.cell? ⟨g,4,none⟩ = some (.int .u32 (BP (Cb (BB L) kn)).yours):=(AA s0 4).trans rfl; clear s0; go_simp; with_reducible rfl)
 refine pu 13 201 Y8 ?_
 refine pu 14 202 Y9 ?_
 refine pu 15 203 ZA ?_
 refine tk 16 204 ZB hHeld ?_ (hf:=by intro w' s0; have Gv:w'.cell? ⟨g,9,none⟩ = some (.int .u32 (BP (Cb (BB L) kn)).expected):=(AA s0 9).trans rfl; clear s0; go_simp; with_reducible rfl)
 refine pu 17 205 ZC ?_ (hy:=by intro w'; have DV:=Try.underlying27; go_simp; rfl)
 refine la 18 (some 206) ZE fun K hK => ?_
 refine BR Try.func80 (by kernel_rfl) rfl #[.pointer (some ⟨g,0,none⟩),.agg #[.int .i64 3,.int .u32 (BP (Cb (BB L) kn)).token,.int .u32 (BP (Cb (BB L) kn)).AL,.int .u32 (BP (Cb (BB L) kn)).yours,.int .u32 0,.int .u32 (BP (Cb (BB L) kn)).expected,.int .u32 0,.int .u32 0,.complex .f64 0 0,.slice none 0 0]] (by rfl) rfl rfl (by (try simp only [List.map_toArray,List.map_cons,List.map_nil]); first | done | rfl) ?_
 refine Um.out.mono ?_
 rintro e jX ⟨rfl,hE⟩
 obtain ⟨aQ,jY,hF⟩:=TS.GM WG.out hB hE
 have SS:=Lib.hid hF
 clear hE hF
 refine ⟨_,rfl,?_⟩
 refine hK.out _ _ ?_
 clear hK K
 refine BU (by kernel_rfl) ?_
 go_wp2_with fail
 refine wp_label ?_
 go_wp2_with (first | ((with_reducible refine AV (N:=207) rfl ?_); (refine wpList_load_row rfl 56 (.tmp 6) rfl (w.heap.size + 1) (by rfl) 56 _ (0,0) _ (by first | exact SS.out.tb | exact (SS.out.drewN hB _).tb) Try.underlying56 rfl (by kernel_rfl) ?_)) | ((with_reducible refine gate_ (.store 56 (.tmp 6) (.tmp 207)) rfl ?_); (refine Ae rfl rfl 56 (.tmp 6) (.tmp 207) rfl (w.heap.size + 1) _ rfl rfl 56 _ (by first | exact SS.out.tb | exact (SS.out.drewN hB _).tb) (by kernel_rfl) rfl (by kernel_rfl) ?_); (intro jZ ED D7); (have hF:=TS.IA (by first | exact SS.out | exact SS.out.drewN hB _ | exact SS.out.drew hB) hB D7 ED (by first | exact SS.out.Ea | exact (SS.out.drewN hB _).Ea) (by first | exact SS.out.okb | exact (SS.out.drewN hB _).okb)); (have ja:=Lib.hid hF); (clear hF ED D7)))
 refine Jump.ret ?_
 refine bodyPost_ret ?_ rfl (ja.out.ends)
 exact Ag Try.results34 _ _ rfl rfl (run_loadVar_row (P:=Try.prog) _ (w.heap.size + 1) 56 56 _ (0,0) _ ja.out.tb Try.underlying56 rfl (by kernel_rfl))
theorem OI {w:World} {B g:Nat} {Af Ac S:Nat → Prop} {L:Lk} {q o:Value} (h:At w B Af Ac g L q o) (hok:L.Ok) (hS:∀ k,holds Af Ac g k → S k) (hB:B ≤ w.heap.size) (AL:Int) (p:BL) (Ab:Option Addr) (cb:Nat)
  (hb0:AL ≠ 0) (hbr:0 ≤ AL ∧ AL < 4294967296) (hpr:p.JV) (hck:Aj p.kind p.mine p.AL p.yours p.seq p.AX p.stamp p.echo p.zr p.zi p.body.length = 0)  (DX:L.phase = 2) (hag:CX L AL p.mine = 0) (hmn:BQ L p = true) (hpl:p.body.length ≤ 1000) {C9:Nat → Prop} (hR:(Kd.int .u8).R 5 w B C9 (.slice Ab p.body.length cb) p.body) (hkp:∀ k,C9 k → ¬ S k) (kn:Nat) (hkk:IntKind.u32.wrap (p.AX - L.base) = kn) (hkd:p.kind = 2) (Iw:p.seq = L.expected) (h1k:kn = 0) :
  Calls Try.prog 34 #[.pointer (some ⟨g,0,none⟩),.int .u32 AL,.agg #[.int .i64 p.kind,.int .u32 p.mine,.int .u32 p.AL,.int .u32 p.yours,.int .u32 p.seq,.int .u32 p.AX,.int .u32 p.stamp,.int .u32 p.echo,.complex .f64 p.zr p.zi,.slice Ab p.body.length cb]] w fun e w' => EW w B S g (emit_ (BB L) (LK (BB L))) true false false p.body e w':=by
 have Fh:=Lib.hid (show (((w.alloc (.cells #[.int .i64 p.kind,.int .u32 p.mine,.int .u32 p.AL,.int .u32 p.yours,.int .u32 p.seq,.int .u32 p.AX,.int .u32 p.stamp,.int .u32 p.echo,.complex .f64 p.zr p.zi,.slice Ab p.body.length cb] 27)).alloc (.cells #[.bool false,.bool false,.bool false,.slice none 0 0] 56))).heap[w.heap.size]? = some (.cells #[.int .i64 p.kind,.int .u32 p.mine,.int .u32 p.AL,.int .u32 p.yours,.int .u32 p.seq,.int .u32 p.AX,.int .u32 p.stamp,.int .u32 p.echo,.complex .f64 p.zr p.zi,.slice Ab p.body.length cb] 27 (0,0)) from (Below.heap_alloc _ _ _ (by simp)).trans (heap_alloc_new w _))
 have H:=Lib.hid h
 have OK:=Lib.hid hok
 have HS:=Lib.hid hS
 have EF:=Lib.hid hpr
 have Es:=Lib.hid hck
 have hbz:(AL == 0) = false:=by simp [hb0]
 have EO:=Lib.hid DX
 clear DX
 have G7:=Lib.hid hag
 clear hag
 have Eg:=Lib.hid hkd
 clear hkd
 clear hbr
 have IJ:=Lib.hid hmn
 clear hmn
 have SH:=Lib.hid hR
 have SK:=Lib.hid hkp
 have QJ:=Lib.hid hpl
 clear hR hkp hpl
 have HKK:=Lib.hid hkk
 clear hkk
 have hlb:=OK.out.sent
 have SN:=OK.out.queue
 have hd6:(p.seq == L.expected) = true:=by simp [Iw]
 clear Iw
 have hd7:decide ((kn:Int) ≥ 1) = false:=by simp; omega
 clear h1k
 clear h hok hS hpr hck hb0
 go_enter Try.func34,Try.ntmps34
 go_wp2_with fail
 refine Ap 3 (fun C HC => ?_)
 go_wp2_with (first | ((with_reducible refine AV (N:=17) rfl ?_); (refine wpList_load_row rfl 27 (.tmp 5) rfl w.heap.size (by rfl) 27 #[.int .i64 p.kind,.int .u32 p.mine,.int .u32 p.AL,.int .u32 p.yours,.int .u32 p.seq,.int .u32 p.AX,.int .u32 p.stamp,.int .u32 p.echo,.complex .f64 p.zr p.zi,.slice Ab p.body.length cb] (0,0) _ Fh.out Try.underlying27 rfl (by kernel_rfl) ?_)) | (go_at_call 20; (refine (check_any _ _ _ _ _ _ _ _ _ _ _ _ _ _ EF.out.zr EF.out.zi).mono ?_); (rintro e BH ⟨rfl,hb⟩); (rw [Es.out]); (have K0:=Lib.hid (TS.start (pc:=#[.int .i64 p.kind,.int .u32 p.mine,.int .u32 p.AL,.int .u32 p.yours,.int .u32 p.seq,.int .u32 p.AX,.int .u32 p.stamp,.int .u32 p.echo,.complex .f64 p.zr p.zi,.slice Ab p.body.length cb]) H.out HS.out hB (hb.mono (by simp)))); (clear hb); (have hl1:BH.cell? ⟨g,1,none⟩ = some (.int .i64 2):=(AA K0.out.at_.blk 1).trans (congrArg (fun x => some (Value.int .i64 x)) EO.out)); (have hp0:BH.cell? ⟨w.heap.size,0,none⟩ = some (.int .i64 2):=(AA K0.out.pb 0).trans (congrArg (fun x => some (Value.int .i64 x)) Eg.out)); (have hp1:BH.cell? ⟨w.heap.size,1,none⟩ = some (.int .u32 p.mine):=(AA K0.out.pb 1).trans rfl)) | (go_at_call 76; (refine (Ci K0.out.at_ AL p.mine).mono ?_); (rintro e w1 ⟨rfl,rfl⟩); (rw [G7.out])) | ((with_reducible refine AV (N:=59) rfl ?_); (refine Ce (by rfl) ?_); (refine wpList_load_row rfl 27 (.tmp 5) rfl w.heap.size (by rfl) 27 _ (0,0) _ (by first | exact K0.out.pb | exact (K0.out.drewN hB _).pb) Try.underlying27 rfl (by kernel_rfl) ?_)) | (go_at_call 77; (refine (DL K0.out.at_ p (.slice Ab p.body.length cb)).mono ?_); (rintro e CQ ⟨rfl,hb⟩); (have hme:BQ (L) p = true:=IJ.out); (rw [hme]); (clear hme); (have K1:=Lib.hid (K0.out.sub hB hb)); (clear hb); (clear hl1 hp0 hp1)) | ((with_reducible refine gate_ (.store 4 (.tmp 62) (.const (.bool true))) rfl ?_); (refine AZ (fun wz => TS w B S g #[.int .i64 p.kind,.int .u32 p.mine,.int .u32 p.AL,.int .u32 p.yours,.int .u32 p.seq,.int .u32 p.AX,.int .u32 p.stamp,.int .u32 p.echo,.complex .f64 p.zr p.zi,.slice Ab p.body.length cb] Af Ac (fun _ => False) (L) q o true false false (.slice none 0 0) [] wz) rfl rfl ⟨_,(by have hz1:World.cell? CQ ⟨w.heap.size + 1,0,none⟩ = some _:=(AA K1.out.tb 0).trans rfl; have hz2:=AB K1.out.tb 0; first | (go_simp; done) | (go_simp; rfl)),TS.EK K1.out hB 0 _ rfl⟩ (fun BM hF => ?_)); (have K2:=Lib.hid hF); (clear hF); (have Lh:BM.cell? ⟨g,9,none⟩ = some (.int .u32 L.expected):=(AA K2.out.at_.blk 9).trans rfl); (have hp0:BM.cell? ⟨w.heap.size,0,none⟩ = some (.int .i64 2):=(AA K2.out.pb 0).trans (congrArg (fun x => some (Value.int .i64 x)) Eg.out)); (have J9:BM.cell? ⟨w.heap.size,4,none⟩ = some (.int .u32 p.seq):=(AA K2.out.pb 4).trans rfl)))
 refine wp_goto ?_
 refine Jump.goto HC.out rfl ?_
 go_wp2_with fail
 go_quiet (fail)
 rename Nat => FY
 go_wp2_with (first | ((with_reducible refine gate_ (.store 24 (.tmp 131) (.tmp 129)) rfl ?_); (refine AZ (fun wz => TS w B S g #[.int .i64 p.kind,.int .u32 p.mine,.int .u32 p.AL,.int .u32 p.yours,.int .u32 p.seq,.int .u32 p.AX,.int .u32 p.stamp,.int .u32 p.echo,.complex .f64 p.zr p.zi,.slice Ab p.body.length cb] Af Ac (fun _ => False) (BB L) q o true false false (.slice none 0 0) [] wz) rfl rfl ⟨_,(by have hz1:World.cell? BM ⟨g,9,none⟩ = some _:=(AA K2.out.at_.blk 9).trans rfl; have hz2:=AB K2.out.at_.blk 9; first | (go_simp; done) | (go_simp; rfl)),TS.Dt (K2.out.drewN hB FY) hB 9 _ rfl rfl rfl⟩ (fun CE hF => ?_)); (have K3:=Lib.hid hF); (clear hF); (clear Lh hp0 J9); (have X9:CE.cell? ⟨w.heap.size,9,none⟩ = some (.slice Ab p.body.length cb):=(AA K3.out.pb 9).trans rfl)) | ((with_reducible refine AV (N:=134) rfl ?_); (refine Kd.FH (Kd.int .u8) (Rr:=fun x cs => cs = [Value.int .u8 x]) (w0:=w) (W:=CE) B rfl (.const (.slice none 0 0)) (.tmp 133) 22 5 (.int .u8 0) 1 rfl Try.underlying22 JU rfl (by decide) (by decide) (.slice none 0 0) [] p.body Ab p.body.length cb (fun k => CE.heap.size ≤ k) (fun _ => False) rfl rfl (Kd.CZ _ _ _ _ _) (Kd.Dx (Kd.BJ SH.out K3.out.kept SK.out)).2.2 (fun _ _ hx => hx) (fun _ hf => hf.elim) (fun k hk => hk) K3.out.below (Nat.le_trans hB K3.out.kept.1) (by have:=QJ.out; simp; omega) ?_); (intro v1 DW hR hbl hg _); (obtain ⟨A1,c1,hv1⟩:=Kd.BA hR); (subst hv1); (have hF:=TS.grow K3.out hB (⟨hg.os,hg.tape,hg.output,hg.size,fun k hk => hg.block k hk (by simp [Value.ownBlock])⟩:Below CE.heap.size CE DW) hR); (have K4:=Lib.hid hF.1); (have VL:=Lib.hid hF.2); (clear hF hR hbl hg); (clear X9)) | ((with_reducible refine gate_ (.store 22 (.tmp 135) (.tmp 134)) rfl ?_); (refine AZ (fun wz => TS w B S g #[.int .i64 p.kind,.int .u32 p.mine,.int .u32 p.AL,.int .u32 p.yours,.int .u32 p.seq,.int .u32 p.AX,.int .u32 p.stamp,.int .u32 p.echo,.complex .f64 p.zr p.zi,.slice Ab p.body.length cb] Af Ac (fun k => CE.heap.size ≤ k ∧ k < DW.heap.size) (BB L) q o true false false ((.slice A1 ([] ++ p.body).length c1)) p.body wz) rfl rfl ⟨_,(by have hz1:World.cell? DW ⟨w.heap.size + 1,3,none⟩ = some _:=(AA K4.out.tb 3).trans rfl; have hz2:=AB K4.out.tb 3; first | (go_simp; done) | (go_simp; rfl)),K4.out.IA hB (Steps.At.set (Steps.At.refl _ _) 3 _) (AQ K4.out.tb 3 _ rfl) VL.out.1 VL.out.2⟩ (fun D5 hF => ?_)); (have K5:=Lib.hid hF); (clear hF); (have J3:D5.cell? ⟨g,8,none⟩ = some (.int .u32 L.base):=(AA K5.out.at_.blk 8).trans rfl); (have PE:D5.cell? ⟨w.heap.size,5,none⟩ = some (.int .u32 p.AX):=(AA K5.out.pb 5).trans rfl); (have hp0:D5.cell? ⟨w.heap.size,0,none⟩ = some (.int .i64 2):=(AA K5.out.pb 0).trans (congrArg (fun x => some (Value.int .i64 x)) Eg.out))))
 go_quiet ((go_at_call 79; refine (EU _ _ _).mono fun _ _ hq => ⟨hq.1.trans (congrArg (fun x => Ending.returned (.int .u32 x)) HKK.out),_,hq.2.symm⟩))
 rename Nat => Eh
 go_wp2_with fail
 have hSS:(D5.drewN Eh).drew.heap[g]? = some (.cells (row (BB L) q o) 131 (0,0)):=(K5.out.drewN hB Eh).at_.blk
 have hts:=(K5.out.drewN hB Eh).drew hB
 clear J3 PE hp0
 exact Z3
theorem OJ {w:World} {B g:Nat} {Af Ac S:Nat → Prop} {L:Lk} {q o:Value} (h:At w B Af Ac g L q o) (hok:L.Ok) (hS:∀ k,holds Af Ac g k → S k) (hB:B ≤ w.heap.size) (AL:Int) (p:BL) (Ab:Option Addr) (cb:Nat)
  (hb0:AL ≠ 0) (hbr:0 ≤ AL ∧ AL < 4294967296) (hpr:p.JV) (hck:Aj p.kind p.mine p.AL p.yours p.seq p.AX p.stamp p.echo p.zr p.zi p.body.length = 0)  (DX:L.phase = 2) (hag:CX L AL p.mine = 0) (hmn:BQ L p = true) (hpl:p.body.length ≤ 1000) {C9:Nat → Prop} (hR:(Kd.int .u8).R 5 w B C9 (.slice Ab p.body.length cb) p.body) (hkp:∀ k,C9 k → ¬ S k) (kn:Nat) (hkk:IntKind.u32.wrap (p.AX - L.base) = kn) (hkd:p.kind = 2) (Iw:p.seq = L.expected) (h1k:1 ≤ kn) (hks:L.sent < (kn:Int)) :
  Calls Try.prog 34 #[.pointer (some ⟨g,0,none⟩),.int .u32 AL,.agg #[.int .i64 p.kind,.int .u32 p.mine,.int .u32 p.AL,.int .u32 p.yours,.int .u32 p.seq,.int .u32 p.AX,.int .u32 p.stamp,.int .u32 p.echo,.complex .f64 p.zr p.zi,.slice Ab p.body.length cb]] w fun e w' => EW w B S g (emit_ (BB L) (LK (BB L))) true false false p.body e w':=by
 have Fh:=Lib.hid (show (((w.alloc (.cells #[.int .i64 p.kind,.int .u32 p.mine,.int .u32 p.AL,.int .u32 p.yours,.int .u32 p.seq,.int .u32 p.AX,.int .u32 p.stamp,.int .u32 p.echo,.complex .f64 p.zr p.zi,.slice Ab p.body.length cb] 27)).alloc (.cells #[.bool false,.bool false,.bool false,.slice none 0 0] 56))).heap[w.heap.size]? = some (.cells #[.int .i64 p.kind,.int .u32 p.mine,.int .u32 p.AL,.int .u32 p.yours,.int .u32 p.seq,.int .u32 p.AX,.int .u32 p.stamp,.int .u32 p.echo,.complex .f64 p.zr p.zi,.slice Ab p.body.length cb] 27 (0,0)) from (Below.heap_alloc _ _ _ (by simp)).trans (heap_alloc_new w _))
 have H:=Lib.hid h
 have OK:=Lib.hid hok
 have HS:=Lib.hid hS
 have EF:=Lib.hid hpr
 have Es:=Lib.hid hck
 have hbz:(AL == 0) = false:=by simp [hb0]
 have EO:=Lib.hid DX
 clear DX
 have G7:=Lib.hid hag
 clear hag
 have Eg:=Lib.hid hkd
 clear hkd
 clear hbr
 have IJ:=Lib.hid hmn
 clear hmn
 have SH:=Lib.hid hR
 have SK:=Lib.hid hkp
 have QJ:=Lib.hid hpl
 clear hR hkp hpl
 have HKK:=Lib.hid hkk
 clear hkk
 have hlb:=OK.out.sent
 have SN:=OK.out.queue
 have hd6:(p.seq == L.expected) = true:=by simp [Iw]
 clear Iw
 have hd7:decide ((kn:Int) ≥ 1) = true:=by simp; omega
 have hd8:decide ((kn:Int) ≤ L.sent) = false:=by simp; omega
 have hw8:IntKind.u32.wrap L.sent = L.sent:=by rw [Gw]; omega
 clear h1k
 have QK:=Lib.hid hks
 clear hks
 clear h hok hS hpr hck hb0
 go_enter Try.func34,Try.ntmps34
 go_wp2_with fail
 refine Ap 3 (fun C HC => ?_)
 go_wp2_with (first | ((with_reducible refine AV (N:=17) rfl ?_); (refine wpList_load_row rfl 27 (.tmp 5) rfl w.heap.size (by rfl) 27 #[.int .i64 p.kind,.int .u32 p.mine,.int .u32 p.AL,.int .u32 p.yours,.int .u32 p.seq,.int .u32 p.AX,.int .u32 p.stamp,.int .u32 p.echo,.complex .f64 p.zr p.zi,.slice Ab p.body.length cb] (0,0) _ Fh.out Try.underlying27 rfl (by kernel_rfl) ?_)) | (go_at_call 20; (refine (check_any _ _ _ _ _ _ _ _ _ _ _ _ _ _ EF.out.zr EF.out.zi).mono ?_); (rintro e BH ⟨rfl,hb⟩); (rw [Es.out]); (have K0:=Lib.hid (TS.start (pc:=#[.int .i64 p.kind,.int .u32 p.mine,.int .u32 p.AL,.int .u32 p.yours,.int .u32 p.seq,.int .u32 p.AX,.int .u32 p.stamp,.int .u32 p.echo,.complex .f64 p.zr p.zi,.slice Ab p.body.length cb]) H.out HS.out hB (hb.mono (by simp)))); (clear hb); (have hl1:BH.cell? ⟨g,1,none⟩ = some (.int .i64 2):=(AA K0.out.at_.blk 1).trans (congrArg (fun x => some (Value.int .i64 x)) EO.out)); (have hp0:BH.cell? ⟨w.heap.size,0,none⟩ = some (.int .i64 2):=(AA K0.out.pb 0).trans (congrArg (fun x => some (Value.int .i64 x)) Eg.out)); (have hp1:BH.cell? ⟨w.heap.size,1,none⟩ = some (.int .u32 p.mine):=(AA K0.out.pb 1).trans rfl)) | (go_at_call 76; (refine (Ci K0.out.at_ AL p.mine).mono ?_); (rintro e w1 ⟨rfl,rfl⟩); (rw [G7.out])) | ((with_reducible refine AV (N:=59) rfl ?_); (refine Ce (by rfl) ?_); (refine wpList_load_row rfl 27 (.tmp 5) rfl w.heap.size (by rfl) 27 _ (0,0) _ (by first | exact K0.out.pb | exact (K0.out.drewN hB _).pb) Try.underlying27 rfl (by kernel_rfl) ?_)) | (go_at_call 77; (refine (DL K0.out.at_ p (.slice Ab p.body.length cb)).mono ?_); (rintro e CQ ⟨rfl,hb⟩); (have hme:BQ (L) p = true:=IJ.out); (rw [hme]); (clear hme); (have K1:=Lib.hid (K0.out.sub hB hb)); (clear hb); (clear hl1 hp0 hp1)) | ((with_reducible refine gate_ (.store 4 (.tmp 62) (.const (.bool true))) rfl ?_); (refine AZ (fun wz => TS w B S g #[.int .i64 p.kind,.int .u32 p.mine,.int .u32 p.AL,.int .u32 p.yours,.int .u32 p.seq,.int .u32 p.AX,.int .u32 p.stamp,.int .u32 p.echo,.complex .f64 p.zr p.zi,.slice Ab p.body.length cb] Af Ac (fun _ => False) (L) q o true false false (.slice none 0 0) [] wz) rfl rfl ⟨_,(by have hz1:World.cell? CQ ⟨w.heap.size + 1,0,none⟩ = some _:=(AA K1.out.tb 0).trans rfl; have hz2:=AB K1.out.tb 0; first | (go_simp; done) | (go_simp; rfl)),TS.EK K1.out hB 0 _ rfl⟩ (fun BM hF => ?_)); (have K2:=Lib.hid hF); (clear hF); (have Lh:BM.cell? ⟨g,9,none⟩ = some (.int .u32 L.expected):=(AA K2.out.at_.blk 9).trans rfl); (have hp0:BM.cell? ⟨w.heap.size,0,none⟩ = some (.int .i64 2):=(AA K2.out.pb 0).trans (congrArg (fun x => some (Value.int .i64 x)) Eg.out)); (have J9:BM.cell? ⟨w.heap.size,4,none⟩ = some (.int .u32 p.seq):=(AA K2.out.pb 4).trans rfl)))
 refine wp_goto ?_
 refine Jump.goto HC.out rfl ?_
 go_wp2_with fail
 go_quiet (fail)
 rename Nat => FY
 go_wp2_with (first | ((with_reducible refine gate_ (.store 24 (.tmp 131) (.tmp 129)) rfl ?_); (refine AZ (fun wz => TS w B S g #[.int .i64 p.kind,.int .u32 p.mine,.int .u32 p.AL,.int .u32 p.yours,.int .u32 p.seq,.int .u32 p.AX,.int .u32 p.stamp,.int .u32 p.echo,.complex .f64 p.zr p.zi,.slice Ab p.body.length cb] Af Ac (fun _ => False) (BB L) q o true false false (.slice none 0 0) [] wz) rfl rfl ⟨_,(by have hz1:World.cell? BM ⟨g,9,none⟩ = some _:=(AA K2.out.at_.blk 9).trans rfl; have hz2:=AB K2.out.at_.blk 9; first | (go_simp; done) | (go_simp; rfl)),TS.Dt (K2.out.drewN hB FY) hB 9 _ rfl rfl rfl⟩ (fun CE hF => ?_)); (have K3:=Lib.hid hF); (clear hF); (clear Lh hp0 J9); (have X9:CE.cell? ⟨w.heap.size,9,none⟩ = some (.slice Ab p.body.length cb):=(AA K3.out.pb 9).trans rfl)) | ((with_reducible refine AV (N:=134) rfl ?_); (refine Kd.FH (Kd.int .u8) (Rr:=fun x cs => cs = [Value.int .u8 x]) (w0:=w) (W:=CE) B rfl (.const (.slice none 0 0)) (.tmp 133) 22 5 (.int .u8 0) 1 rfl Try.underlying22 JU rfl (by decide) (by decide) (.slice none 0 0) [] p.body Ab p.body.length cb (fun k => CE.heap.size ≤ k) (fun _ => False) rfl rfl (Kd.CZ _ _ _ _ _) (Kd.Dx (Kd.BJ SH.out K3.out.kept SK.out)).2.2 (fun _ _ hx => hx) (fun _ hf => hf.elim) (fun k hk => hk) K3.out.below (Nat.le_trans hB K3.out.kept.1) (by have:=QJ.out; simp; omega) ?_); (intro v1 DW hR hbl hg _); (obtain ⟨A1,c1,hv1⟩:=Kd.BA hR); (subst hv1); (have hF:=TS.grow K3.out hB (⟨hg.os,hg.tape,hg.output,hg.size,fun k hk => hg.block k hk (by simp [Value.ownBlock])⟩:Below CE.heap.size CE DW) hR); (have K4:=Lib.hid hF.1); (have VL:=Lib.hid hF.2); (clear hF hR hbl hg); (clear X9)) | ((with_reducible refine gate_ (.store 22 (.tmp 135) (.tmp 134)) rfl ?_); (refine AZ (fun wz => TS w B S g #[.int .i64 p.kind,.int .u32 p.mine,.int .u32 p.AL,.int .u32 p.yours,.int .u32 p.seq,.int .u32 p.AX,.int .u32 p.stamp,.int .u32 p.echo,.complex .f64 p.zr p.zi,.slice Ab p.body.length cb] Af Ac (fun k => CE.heap.size ≤ k ∧ k < DW.heap.size) (BB L) q o true false false ((.slice A1 ([] ++ p.body).length c1)) p.body wz) rfl rfl ⟨_,(by have hz1:World.cell? DW ⟨w.heap.size + 1,3,none⟩ = some _:=(AA K4.out.tb 3).trans rfl; have hz2:=AB K4.out.tb 3; first | (go_simp; done) | (go_simp; rfl)),K4.out.IA hB (Steps.At.set (Steps.At.refl _ _) 3 _) (AQ K4.out.tb 3 _ rfl) VL.out.1 VL.out.2⟩ (fun D5 hF => ?_)); (have K5:=Lib.hid hF); (clear hF); (have J3:D5.cell? ⟨g,8,none⟩ = some (.int .u32 L.base):=(AA K5.out.at_.blk 8).trans rfl); (have JW:D5.cell? ⟨g,7,none⟩ = some (.int .i64 L.sent):=(AA K5.out.at_.blk 7).trans rfl); (have PE:D5.cell? ⟨w.heap.size,5,none⟩ = some (.int .u32 p.AX):=(AA K5.out.pb 5).trans rfl); (have hp0:D5.cell? ⟨w.heap.size,0,none⟩ = some (.int .i64 2):=(AA K5.out.pb 0).trans (congrArg (fun x => some (Value.int .i64 x)) Eg.out))))
 go_quiet ((go_at_call 79; refine (EU _ _ _).mono fun _ _ hq => ⟨hq.1.trans (congrArg (fun x => Ending.returned (.int .u32 x)) HKK.out),_,hq.2.symm⟩))
 rename Nat => Eh
 go_wp2_with fail
 have hSS:(D5.drewN Eh).drew.heap[g]? = some (.cells (row (BB L) q o) 131 (0,0)):=(K5.out.drewN hB Eh).at_.blk
 have hts:=(K5.out.drewN hB Eh).drew hB
 clear J3 JW PE hp0
 exact Z3
end Go.Proofs.Ytnkkgofpifhoeaa.Lk
end
