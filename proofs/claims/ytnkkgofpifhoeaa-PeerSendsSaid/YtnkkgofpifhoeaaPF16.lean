/- What the laws of a pair are proved with: links and pairs in memory, what their methods do, what a pair keeps to (part 16). -/
import Derived.Test.YtnkkgofpifhoeaaPF15
import Derived.Test.YtnkkgofpifhoeaaPF14
set_option linter.unusedSimpArgs false
set_option linter.unusedVariables false
set_option maxRecDepth 100000
set_option maxHeartbeats 16000000
namespace Go.Proofs.Ytnkkgofpifhoeaa
theorem jV {p:Prop} (h:p:=by
 have PE:BM.cell? ⟨w.heap.size,5,none⟩ = some (.int .u32 p.AX):=(AA K2.out.pb 5).trans rfl
 have hp0:BM.cell? ⟨w.heap.size,0,none⟩ = some (.int .i64 p.kind):=(AA K2.out.pb 0).trans rfl
 go_wp2_with fail
 go_quiet ((go_at_call 79; refine (EU _ _ _).mono fun _ _ hq => ⟨hq.1.trans (congrArg (fun x => Ending.returned (.int .u32 x)) HKK.out),_,hq.2.symm⟩))
 rename Nat => Eh
 go_wp2_with fail
 refine wp_label ?_
 exact Z9):p:=h
end Go.Proofs.Ytnkkgofpifhoeaa
section
namespace Go.Proofs.Ytnkkgofpifhoeaa.Lk
open Go.RowKit Go.Proofs.Ytnkkgofpifhoeaa.Base Go.Proofs.Ytnkkgofpifhoeaa.Steps Go.Proofs.Ytnkkgofpifhoeaa.Pk Go.Proofs.Ytnkkgofpifhoeaa.X6 Go.Proofs.YtnkkgofpifhoeaaW.PrintWords Go.Proofs.YtnkkgofpifhoeaaW.PrintLast
theorem OA {w:World} {B g:Nat} {Af Ac S:Nat → Prop} {L:Lk} {q o:Value} (h:At w B Af Ac g L q o) (hok:L.Ok) (hS:∀ k,holds Af Ac g k → S k) (hB:B ≤ w.heap.size) (AL:Int) (p:BL) (Ab:Option Addr) (cb:Nat)
  (hb0:AL ≠ 0) (hbr:0 ≤ AL ∧ AL < 4294967296) (hpr:p.JV) (hck:Aj p.kind p.mine p.AL p.yours p.seq p.AX p.stamp p.echo p.zr p.zi p.body.length = 0)  (DX:L.phase = 2) (hag:CX L AL p.mine = 0) (hmn:BQ L p = true) (hpl:p.body.length ≤ 1000) {C9:Nat → Prop} (hR:(Kd.int .u8).R 5 w B C9 (.slice Ab p.body.length cb) p.body) (hkp:∀ k,C9 k → ¬ S k) (kn:Nat) (hkk:IntKind.u32.wrap (p.AX - L.base) = kn) (hkn:p.kind ≠ 1) (hkm:p.kind ≠ 2) (h1k:1 ≤ kn) (hks:(kn:Int) ≤ L.sent) :
  Calls Try.prog 34 #[.pointer (some ⟨g,0,none⟩),.int .u32 AL,.agg #[.int .i64 p.kind,.int .u32 p.mine,.int .u32 p.AL,.int .u32 p.yours,.int .u32 p.seq,.int .u32 p.AX,.int .u32 p.stamp,.int .u32 p.echo,.complex .f64 p.zr p.zi,.slice Ab p.body.length cb]] w fun e w' => EW w B S g (BP (Cb (L) kn)) true false false [] e w':=by
 have Fh:=Lib.hid (show (((w.alloc (.cells #[.int .i64 p.kind,.int .u32 p.mine,.int .u32 p.AL,.int .u32 p.yours,.int .u32 p.seq,.int .u32 p.AX,.int .u32 p.stamp,.int .u32 p.echo,.complex .f64 p.zr p.zi,.slice Ab p.body.length cb] 27)).alloc (.cells #[.bool false,.bool false,.bool false,.slice none 0 0] 56))).heap[w.heap.size]? = some (.cells #[.int .i64 p.kind,.int .u32 p.mine,.int .u32 p.AL,.int .u32 p.yours,.int .u32 p.seq,.int .u32 p.AX,.int .u32 p.stamp,.int .u32 p.echo,.complex .f64 p.zr p.zi,.slice Ab p.body.length cb] 27 (0,0)) from (Below.heap_alloc _ _ _ (by simp)).trans (heap_alloc_new w _))
 have H:=Lib.hid h
 have OK:=Lib.hid hok
 have HS:=Lib.hid hS
 have EF:=Lib.hid hpr
 have Es:=Lib.hid hck
 have hbz:(AL == 0) = false:=by simp [hb0]
 have EO:=Lib.hid DX
 clear DX
 have G7:=Lib.hid hag
 clear hag
 clear hbr
 have IJ:=Lib.hid hmn
 clear hmn
 have SH:=Lib.hid hR
 have SK:=Lib.hid hkp
 have QJ:=Lib.hid hpl
 clear hR hkp hpl
 have HKK:=Lib.hid hkk
 clear hkk
 have hlb:=OK.out.sent
 have SN:=OK.out.queue
 have hd4:(p.kind == 1) = false:=by simp [hkn]
 have hd5:(p.kind == 2) = false:=by simp [hkm]
 clear hkn hkm
 have hd7:decide ((kn:Int) ≥ 1) = true:=by simp; omega
 have hd8:decide ((kn:Int) ≤ L.sent) = true:=by simp; omega
 have hw8:IntKind.u32.wrap L.sent = L.sent:=by rw [Gw]; omega
 clear h1k
 have QK:=Lib.hid hks
 clear hks
 obtain ⟨A6,c6,hq6,J8⟩:=Kd.E5 h.queue
 subst hq6
 have SQ:=Lib.hid (show kn ≤ L.queue.length by have:=QK.out; omega)
 have hsl:=LJ A6 L.queue.length c6 kn SQ.out J8
 obtain ⟨A7,QL⟩:∃ A,A = (if c6 = kn then A6 else A6.map (·.add (kn * bytes.sz))):=⟨_,rfl⟩
 rw [← QL] at hsl
 have X8:=Lib.hid QL
 clear QL
 clear J8
 have hkq:=SQ.out
 generalize Qo:L.queue.length = qn at H hsl hkq hlb SN
 have X0:=Lib.hid Qo
 clear Qo
 have hc4:kn < 4294967296:=by omega
 clear h hok hS hpr hck hb0
 go_enter Try.func34,Try.ntmps34
 go_wp2_with fail
 refine Ap 3 (fun C HC => ?_)
 go_wp2_with (first | ((with_reducible refine AV (N:=17) rfl ?_); (refine wpList_load_row rfl 27 (.tmp 5) rfl w.heap.size (by rfl) 27 #[.int .i64 p.kind,.int .u32 p.mine,.int .u32 p.AL,.int .u32 p.yours,.int .u32 p.seq,.int .u32 p.AX,.int .u32 p.stamp,.int .u32 p.echo,.complex .f64 p.zr p.zi,.slice Ab p.body.length cb] (0,0) _ Fh.out Try.underlying27 rfl (by kernel_rfl) ?_)) | (go_at_call 20; (refine (check_any _ _ _ _ _ _ _ _ _ _ _ _ _ _ EF.out.zr EF.out.zi).mono ?_); (rintro e BH ⟨rfl,hb⟩); (rw [Es.out]); (have K0:=Lib.hid (TS.start (pc:=#[.int .i64 p.kind,.int .u32 p.mine,.int .u32 p.AL,.int .u32 p.yours,.int .u32 p.seq,.int .u32 p.AX,.int .u32 p.stamp,.int .u32 p.echo,.complex .f64 p.zr p.zi,.slice Ab p.body.length cb]) H.out HS.out hB (hb.mono (by simp)))); (clear hb); (have hl1:BH.cell? ⟨g,1,none⟩ = some (.int .i64 2):=(AA K0.out.at_.blk 1).trans (congrArg (fun x => some (Value.int .i64 x)) EO.out)); (have hp0:BH.cell? ⟨w.heap.size,0,none⟩ = some (.int .i64 p.kind):=(AA K0.out.pb 0).trans rfl); (have hp1:BH.cell? ⟨w.heap.size,1,none⟩ = some (.int .u32 p.mine):=(AA K0.out.pb 1).trans rfl)) | (go_at_call 76; (refine (Ci K0.out.at_ AL p.mine).mono ?_); (rintro e w1 ⟨rfl,rfl⟩); (rw [G7.out])) | ((with_reducible refine AV (N:=59) rfl ?_); (refine Ce (by rfl) ?_); (refine wpList_load_row rfl 27 (.tmp 5) rfl w.heap.size (by rfl) 27 _ (0,0) _ (by first | exact K0.out.pb | exact (K0.out.drewN hB _).pb) Try.underlying27 rfl (by kernel_rfl) ?_)) | (go_at_call 77; (refine (DL K0.out.at_ p (.slice Ab p.body.length cb)).mono ?_); (rintro e CQ ⟨rfl,hb⟩); (have hme:BQ (L) p = true:=IJ.out); (rw [hme]); (clear hme); (have K1:=Lib.hid (K0.out.sub hB hb)); (clear hb); (clear hl1 hp0 hp1)) | ((with_reducible refine gate_ (.store 4 (.tmp 62) (.const (.bool true))) rfl ?_); (refine AZ (fun wz => TS w B S g #[.int .i64 p.kind,.int .u32 p.mine,.int .u32 p.AL,.int .u32 p.yours,.int .u32 p.seq,.int .u32 p.AX,.int .u32 p.stamp,.int .u32 p.echo,.complex .f64 p.zr p.zi,.slice Ab p.body.length cb] Af Ac (fun _ => False) (L) (.slice A6 qn c6) o true false false (.slice none 0 0) [] wz) rfl rfl ⟨_,(by have hz1:World.cell? CQ ⟨w.heap.size + 1,0,none⟩ = some _:=(AA K1.out.tb 0).trans rfl; have hz2:=AB K1.out.tb 0; first | (go_simp; done) | (go_simp; rfl)),TS.EK K1.out hB 0 _ rfl⟩ (fun BM hF => ?_)); (have K2:=Lib.hid hF); (clear hF); (have Lh:BM.cell? ⟨g,9,none⟩ = some (.int .u32 L.expected):=(AA K2.out.at_.blk 9).trans rfl); (have hp0:BM.cell? ⟨w.heap.size,0,none⟩ = some (.int .i64 p.kind):=(AA K2.out.pb 0).trans rfl); (have J9:BM.cell? ⟨w.heap.size,4,none⟩ = some (.int .u32 p.seq):=(AA K2.out.pb 4).trans rfl)))
 refine wp_goto ?_
 refine Jump.goto HC.out rfl ?_
 go_wp2_with fail
 go_quiet (fail)
 rename Nat => FY
 clear Lh hp0 J9
 have J3:BM.cell? ⟨g,8,none⟩ = some (.int .u32 L.base):=(AA K2.out.at_.blk 8).trans rfl
 have J8:BM.cell? ⟨g,6,none⟩ = some ((.slice A6 qn c6)):=(AA K2.out.at_.blk 6).trans rfl
 have JW:BM.cell? ⟨g,7,none⟩ = some (.int .i64 L.sent):=(AA K2.out.at_.blk 7).trans rfl
 have PE:BM.cell? ⟨w.heap.size,5,none⟩ = some (.int .u32 p.AX):=(AA K2.out.pb 5).trans rfl
 have hp0:BM.cell? ⟨w.heap.size,0,none⟩ = some (.int .i64 p.kind):=(AA K2.out.pb 0).trans rfl
 go_wp2_with fail
 go_quiet ((go_at_call 79; refine (EU _ _ _).mono fun _ _ hq => ⟨hq.1.trans (congrArg (fun x => Ending.returned (.int .u32 x)) HKK.out),_,hq.2.symm⟩))
 rename Nat => Eh
 go_wp2_with (first | ((with_reducible refine gate_ (.store 45 (.tmp 162) (.tmp 160)) rfl ?_); (refine AZ (fun wz => TS w B S g #[.int .i64 p.kind,.int .u32 p.mine,.int .u32 p.AL,.int .u32 p.yours,.int .u32 p.seq,.int .u32 p.AX,.int .u32 p.stamp,.int .u32 p.echo,.complex .f64 p.zr p.zi,.slice Ab p.body.length cb] Af Ac (fun _ => False) ({ L with queue:=(L).queue.drop kn }) (.slice A7 (qn - kn) (c6 - kn)) o true false false (.slice none 0 0) [] wz) rfl rfl ⟨_,(by have hz1:World.cell? BM ⟨g,6,none⟩ = some _:=(AA K2.out.at_.blk 6).trans rfl; have hz2:=AB K2.out.at_.blk 6; first | (go_simp; done) | (go_simp; rfl)),TS.cut (K2.out.drewN hB (FY + Eh)) hB rfl SQ.out X8.out⟩ (fun CE hF => ?_)); (have K3:=Lib.hid hF); (clear hF); (clear J3 J8 JW PE hp0); (have J3:CE.cell? ⟨g,8,none⟩ = some (.int .u32 L.base):=(AA K3.out.at_.blk 8).trans rfl); (have JW:CE.cell? ⟨g,7,none⟩ = some (.int .i64 L.sent):=(AA K3.out.at_.blk 7).trans rfl); (have hp0:CE.cell? ⟨w.heap.size,0,none⟩ = some (.int .i64 p.kind):=(AA K3.out.pb 0).trans rfl)) | ((with_reducible refine gate_ (.store 24 (.tmp 170) (.tmp 168)) rfl ?_); (have hT:TS w B S g #[.int .i64 p.kind,.int .u32 p.mine,.int .u32 p.AL,.int .u32 p.yours,.int .u32 p.seq,.int .u32 p.AX,.int .u32 p.stamp,.int .u32 p.echo,.complex .f64 p.zr p.zi,.slice Ab p.body.length cb] Af Ac (fun _ => False) ({ L with queue:=(L).queue.drop kn,base:=IntKind.u32.wrap (L.base + kn) }) (.slice A7 (qn - kn) (c6 - kn)) o true false false (.slice none 0 0) [] (World.setCell CE ⟨g,8,none⟩ (.int .u32 (IntKind.u32.wrap (L.base + kn)))):=TS.Dt K3.out hB 8 (.int .u32 (IntKind.u32.wrap (L.base + kn))) rfl rfl rfl); (refine AZ (fun wz => TS w B S g #[.int .i64 p.kind,.int .u32 p.mine,.int .u32 p.AL,.int .u32 p.yours,.int .u32 p.seq,.int .u32 p.AX,.int .u32 p.stamp,.int .u32 p.echo,.complex .f64 p.zr p.zi,.slice Ab p.body.length cb] Af Ac (fun _ => False) ({ L with queue:=(L).queue.drop kn,base:=IntKind.u32.wrap (L.base + kn) }) (.slice A7 (qn - kn) (c6 - kn)) o true false false (.slice none 0 0) [] wz) rfl rfl ⟨_,(by have hz1:World.cell? CE ⟨g,8,none⟩ = some _:=(AA K3.out.at_.blk 8).trans rfl; have hz2:=AB K3.out.at_.blk 8; first | (go_simp; done) | (go_simp; rfl)),hT⟩ (fun DW hF => ?_)); (have K4:=Lib.hid hF); (clear hF hT); (clear J3 JW hp0); (have JW:DW.cell? ⟨g,7,none⟩ = some (.int .i64 L.sent):=(AA K4.out.at_.blk 7).trans rfl); (have hp0:DW.cell? ⟨w.heap.size,0,none⟩ = some (.int .i64 p.kind):=(AA K4.out.pb 0).trans rfl)) | ((with_reducible refine gate_ (.store 3 (.tmp 179) (.tmp 177)) rfl ?_); (have hT:TS w B S g #[.int .i64 p.kind,.int .u32 p.mine,.int .u32 p.AL,.int .u32 p.yours,.int .u32 p.seq,.int .u32 p.AX,.int .u32 p.stamp,.int .u32 p.echo,.complex .f64 p.zr p.zi,.slice Ab p.body.length cb] Af Ac (fun _ => False) ({ L with queue:=(L).queue.drop kn,base:=IntKind.u32.wrap (L.base + kn),sent:=L.sent - kn }) (.slice A7 (qn - kn) (c6 - kn)) o true false false (.slice none 0 0) [] (World.setCell DW ⟨g,7,none⟩ (.int .i64 (L.sent - kn))):=TS.Dt K4.out hB 7 (.int .i64 (L.sent - kn)) rfl rfl rfl); (refine AZ (fun wz => TS w B S g #[.int .i64 p.kind,.int .u32 p.mine,.int .u32 p.AL,.int .u32 p.yours,.int .u32 p.seq,.int .u32 p.AX,.int .u32 p.stamp,.int .u32 p.echo,.complex .f64 p.zr p.zi,.slice Ab p.body.length cb] Af Ac (fun _ => False) ({ L with queue:=(L).queue.drop kn,base:=IntKind.u32.wrap (L.base + kn),sent:=L.sent - kn }) (.slice A7 (qn - kn) (c6 - kn)) o true false false (.slice none 0 0) [] wz) rfl rfl ⟨_,(by have hz1:World.cell? DW ⟨g,7,none⟩ = some _:=(AA K4.out.at_.blk 7).trans rfl; have hz2:=AB K4.out.at_.blk 7; first | (go_simp; done) | (go_simp; rfl)),hT⟩ (fun D5 hF => ?_)); (have K5:=Lib.hid hF); (clear hF hT); (clear JW hp0); (have hp0:D5.cell? ⟨w.heap.size,0,none⟩ = some (.int .i64 p.kind):=(AA K5.out.pb 0).trans rfl)) | ((with_reducible refine gate_ (.store 3 (.tmp 182) (.const (.int .i64 0))) rfl ?_); (have hT:TS w B S g #[.int .i64 p.kind,.int .u32 p.mine,.int .u32 p.AL,.int .u32 p.yours,.int .u32 p.seq,.int .u32 p.AX,.int .u32 p.stamp,.int .u32 p.echo,.complex .f64 p.zr p.zi,.slice Ab p.body.length cb] Af Ac (fun _ => False) (Cb (L) kn) (.slice A7 (qn - kn) (c6 - kn)) o true false false (.slice none 0 0) [] (World.setCell D5 ⟨g,10,none⟩ (.int .i64 0)):=TS.Dt K5.out hB 10 (.int .i64 0) rfl rfl rfl); (refine AZ (fun wz => TS w B S g #[.int .i64 p.kind,.int .u32 p.mine,.int .u32 p.AL,.int .u32 p.yours,.int .u32 p.seq,.int .u32 p.AX,.int .u32 p.stamp,.int .u32 p.echo,.complex .f64 p.zr p.zi,.slice Ab p.body.length cb] Af Ac (fun _ => False) (Cb (L) kn) (.slice A7 (qn - kn) (c6 - kn)) o true false false (.slice none 0 0) [] wz) rfl rfl ⟨_,(by have hz1:World.cell? D5 ⟨g,10,none⟩ = some _:=(AA K5.out.at_.blk 10).trans rfl; have hz2:=AB K5.out.at_.blk 10; first | (go_simp; done) | (go_simp; rfl)),hT⟩ (fun G5 hF => ?_)); (have K6:=Lib.hid hF); (clear hF hT); (clear hp0); (have hp0:G5.cell? ⟨w.heap.size,0,none⟩ = some (.int .i64 p.kind):=(AA K6.out.pb 0).trans rfl)) | (go_at_call 74; (refine (JB K6.out.at_ (IU (OK.out) QK.out) (Nat.le_trans hB K6.out.kept.1)).mono ?_); (rintro e Gq ⟨rfl,hE⟩); (obtain ⟨N7,SB,hF⟩:=TS.GM K6.out hB hE); (clear hE); (have K7:=Lib.hid hF); (clear hF); (clear hp0); (have hp0:Gq.cell? ⟨w.heap.size,0,none⟩ = some (.int .i64 p.kind):=(AA K7.out.pb 0).trans rfl)))
 refine wp_label ?_
 exact jT
theorem OB {w:World} {B g:Nat} {Af Ac S:Nat → Prop} {L:Lk} {q o:Value} (h:At w B Af Ac g L q o) (hok:L.Ok) (hS:∀ k,holds Af Ac g k → S k) (hB:B ≤ w.heap.size) (AL:Int) (p:BL) (Ab:Option Addr) (cb:Nat)
  (hb0:AL ≠ 0) (hbr:0 ≤ AL ∧ AL < 4294967296) (hpr:p.JV) (hck:Aj p.kind p.mine p.AL p.yours p.seq p.AX p.stamp p.echo p.zr p.zi p.body.length = 0)  (DX:L.phase = 2) (hag:CX L AL p.mine = 0) (hmn:BQ L p = true) (hpl:p.body.length ≤ 1000) {C9:Nat → Prop} (hR:(Kd.int .u8).R 5 w B C9 (.slice Ab p.body.length cb) p.body) (hkp:∀ k,C9 k → ¬ S k) (kn:Nat) (hkk:IntKind.u32.wrap (p.AX - L.base) = kn) (hkn:p.kind ≠ 1) (hkm:p.kind ≠ 2) (h1k:kn = 0) :
  Calls Try.prog 34 #[.pointer (some ⟨g,0,none⟩),.int .u32 AL,.agg #[.int .i64 p.kind,.int .u32 p.mine,.int .u32 p.AL,.int .u32 p.yours,.int .u32 p.seq,.int .u32 p.AX,.int .u32 p.stamp,.int .u32 p.echo,.complex .f64 p.zr p.zi,.slice Ab p.body.length cb]] w fun e w' => EW w B S g (L) true false false [] e w':=by
 have Fh:=Lib.hid (show (((w.alloc (.cells #[.int .i64 p.kind,.int .u32 p.mine,.int .u32 p.AL,.int .u32 p.yours,.int .u32 p.seq,.int .u32 p.AX,.int .u32 p.stamp,.int .u32 p.echo,.complex .f64 p.zr p.zi,.slice Ab p.body.length cb] 27)).alloc (.cells #[.bool false,.bool false,.bool false,.slice none 0 0] 56))).heap[w.heap.size]? = some (.cells #[.int .i64 p.kind,.int .u32 p.mine,.int .u32 p.AL,.int .u32 p.yours,.int .u32 p.seq,.int .u32 p.AX,.int .u32 p.stamp,.int .u32 p.echo,.complex .f64 p.zr p.zi,.slice Ab p.body.length cb] 27 (0,0)) from (Below.heap_alloc _ _ _ (by simp)).trans (heap_alloc_new w _))
 have H:=Lib.hid h
 have OK:=Lib.hid hok
 have HS:=Lib.hid hS
 have EF:=Lib.hid hpr
 have Es:=Lib.hid hck
 have hbz:(AL == 0) = false:=by simp [hb0]
 have EO:=Lib.hid DX
 clear DX
 have G7:=Lib.hid hag
 clear hag
 clear hbr
 have IJ:=Lib.hid hmn
 clear hmn
 have SH:=Lib.hid hR
 have SK:=Lib.hid hkp
 have QJ:=Lib.hid hpl
 clear hR hkp hpl
 have HKK:=Lib.hid hkk
 clear hkk
 have hlb:=OK.out.sent
 have SN:=OK.out.queue
 have hd4:(p.kind == 1) = false:=by simp [hkn]
 have hd5:(p.kind == 2) = false:=by simp [hkm]
 clear hkn hkm
 have hd7:decide ((kn:Int) ≥ 1) = false:=by simp; omega
 clear h1k
 clear h hok hS hpr hck hb0
 go_enter Try.func34,Try.ntmps34
 go_wp2_with fail
 refine Ap 3 (fun C HC => ?_)
 go_wp2_with (first | ((with_reducible refine AV (N:=17) rfl ?_); (refine wpList_load_row rfl 27 (.tmp 5) rfl w.heap.size (by rfl) 27 #[.int .i64 p.kind,.int .u32 p.mine,.int .u32 p.AL,.int .u32 p.yours,.int .u32 p.seq,.int .u32 p.AX,.int .u32 p.stamp,.int .u32 p.echo,.complex .f64 p.zr p.zi,.slice Ab p.body.length cb] (0,0) _ Fh.out Try.underlying27 rfl (by kernel_rfl) ?_)) | (go_at_call 20; (refine (check_any _ _ _ _ _ _ _ _ _ _ _ _ _ _ EF.out.zr EF.out.zi).mono ?_); (rintro e BH ⟨rfl,hb⟩); (rw [Es.out]); (have K0:=Lib.hid (TS.start (pc:=#[.int .i64 p.kind,.int .u32 p.mine,.int .u32 p.AL,.int .u32 p.yours,.int .u32 p.seq,.int .u32 p.AX,.int .u32 p.stamp,.int .u32 p.echo,.complex .f64 p.zr p.zi,.slice Ab p.body.length cb]) H.out HS.out hB (hb.mono (by simp)))); (clear hb); (have hl1:BH.cell? ⟨g,1,none⟩ = some (.int .i64 2):=(AA K0.out.at_.blk 1).trans (congrArg (fun x => some (Value.int .i64 x)) EO.out)); (have hp0:BH.cell? ⟨w.heap.size,0,none⟩ = some (.int .i64 p.kind):=(AA K0.out.pb 0).trans rfl); (have hp1:BH.cell? ⟨w.heap.size,1,none⟩ = some (.int .u32 p.mine):=(AA K0.out.pb 1).trans rfl)) | (go_at_call 76; (refine (Ci K0.out.at_ AL p.mine).mono ?_); (rintro e w1 ⟨rfl,rfl⟩); (rw [G7.out])) | ((with_reducible refine AV (N:=59) rfl ?_); (refine Ce (by rfl) ?_); (refine wpList_load_row rfl 27 (.tmp 5) rfl w.heap.size (by rfl) 27 _ (0,0) _ (by first | exact K0.out.pb | exact (K0.out.drewN hB _).pb) Try.underlying27 rfl (by kernel_rfl) ?_)) | (go_at_call 77; (refine (DL K0.out.at_ p (.slice Ab p.body.length cb)).mono ?_); (rintro e CQ ⟨rfl,hb⟩); (have hme:BQ (L) p = true:=IJ.out); (rw [hme]); (clear hme); (have K1:=Lib.hid (K0.out.sub hB hb)); (clear hb); (clear hl1 hp0 hp1)) | ((with_reducible refine gate_ (.store 4 (.tmp 62) (.const (.bool true))) rfl ?_); (refine AZ (fun wz => TS w B S g #[.int .i64 p.kind,.int .u32 p.mine,.int .u32 p.AL,.int .u32 p.yours,.int .u32 p.seq,.int .u32 p.AX,.int .u32 p.stamp,.int .u32 p.echo,.complex .f64 p.zr p.zi,.slice Ab p.body.length cb] Af Ac (fun _ => False) (L) q o true false false (.slice none 0 0) [] wz) rfl rfl ⟨_,(by have hz1:World.cell? CQ ⟨w.heap.size + 1,0,none⟩ = some _:=(AA K1.out.tb 0).trans rfl; have hz2:=AB K1.out.tb 0; first | (go_simp; done) | (go_simp; rfl)),TS.EK K1.out hB 0 _ rfl⟩ (fun BM hF => ?_)); (have K2:=Lib.hid hF); (clear hF); (have Lh:BM.cell? ⟨g,9,none⟩ = some (.int .u32 L.expected):=(AA K2.out.at_.blk 9).trans rfl); (have hp0:BM.cell? ⟨w.heap.size,0,none⟩ = some (.int .i64 p.kind):=(AA K2.out.pb 0).trans rfl); (have J9:BM.cell? ⟨w.heap.size,4,none⟩ = some (.int .u32 p.seq):=(AA K2.out.pb 4).trans rfl)))
 refine wp_goto ?_
 refine Jump.goto HC.out rfl ?_
 go_wp2_with fail
 go_quiet (fail)
 rename Nat => FY
 clear Lh hp0 J9
 have J3:BM.cell? ⟨g,8,none⟩ = some (.int .u32 L.base):=(AA K2.out.at_.blk 8).trans rfl
 exact jV
theorem OC {w:World} {B g:Nat} {Af Ac S:Nat → Prop} {L:Lk} {q o:Value} (h:At w B Af Ac g L q o) (hok:L.Ok) (hS:∀ k,holds Af Ac g k → S k) (hB:B ≤ w.heap.size) (AL:Int) (p:BL) (Ab:Option Addr) (cb:Nat)
  (hb0:AL ≠ 0) (hbr:0 ≤ AL ∧ AL < 4294967296) (hpr:p.JV) (hck:Aj p.kind p.mine p.AL p.yours p.seq p.AX p.stamp p.echo p.zr p.zi p.body.length = 0)  (DX:L.phase = 2) (hag:CX L AL p.mine = 0) (hmn:BQ L p = true) (hpl:p.body.length ≤ 1000) {C9:Nat → Prop} (hR:(Kd.int .u8).R 5 w B C9 (.slice Ab p.body.length cb) p.body) (hkp:∀ k,C9 k → ¬ S k) (kn:Nat) (hkk:IntKind.u32.wrap (p.AX - L.base) = kn) (hkn:p.kind ≠ 1) (hkm:p.kind ≠ 2) (h1k:1 ≤ kn) (hks:L.sent < (kn:Int)) :
  Calls Try.prog 34 #[.pointer (some ⟨g,0,none⟩),.int .u32 AL,.agg #[.int .i64 p.kind,.int .u32 p.mine,.int .u32 p.AL,.int .u32 p.yours,.int .u32 p.seq,.int .u32 p.AX,.int .u32 p.stamp,.int .u32 p.echo,.complex .f64 p.zr p.zi,.slice Ab p.body.length cb]] w fun e w' => EW w B S g (L) true false false [] e w':=by
 have Fh:=Lib.hid (show (((w.alloc (.cells #[.int .i64 p.kind,.int .u32 p.mine,.int .u32 p.AL,.int .u32 p.yours,.int .u32 p.seq,.int .u32 p.AX,.int .u32 p.stamp,.int .u32 p.echo,.complex .f64 p.zr p.zi,.slice Ab p.body.length cb] 27)).alloc (.cells #[.bool false,.bool false,.bool false,.slice none 0 0] 56))).heap[w.heap.size]? = some (.cells #[.int .i64 p.kind,.int .u32 p.mine,.int .u32 p.AL,.int .u32 p.yours,.int .u32 p.seq,.int .u32 p.AX,.int .u32 p.stamp,.int .u32 p.echo,.complex .f64 p.zr p.zi,.slice Ab p.body.length cb] 27 (0,0)) from (Below.heap_alloc _ _ _ (by simp)).trans (heap_alloc_new w _))
 have H:=Lib.hid h
 have OK:=Lib.hid hok
 have HS:=Lib.hid hS
 have EF:=Lib.hid hpr
 have Es:=Lib.hid hck
 have hbz:(AL == 0) = false:=by simp [hb0]
 have EO:=Lib.hid DX
 clear DX
 have G7:=Lib.hid hag
 clear hag
 clear hbr
 have IJ:=Lib.hid hmn
 clear hmn
 have SH:=Lib.hid hR
 have SK:=Lib.hid hkp
 have QJ:=Lib.hid hpl
 clear hR hkp hpl
 have HKK:=Lib.hid hkk
 clear hkk
 have hlb:=OK.out.sent
 have SN:=OK.out.queue
 have hd4:(p.kind == 1) = false:=by simp [hkn]
 have hd5:(p.kind == 2) = false:=by simp [hkm]
 clear hkn hkm
 have hd7:decide ((kn:Int) ≥ 1) = true:=by simp; omega
 have hd8:decide ((kn:Int) ≤ L.sent) = false:=by simp; omega
 have hw8:IntKind.u32.wrap L.sent = L.sent:=by rw [Gw]; omega
 clear h1k
 have QK:=Lib.hid hks
 clear hks
 clear h hok hS hpr hck hb0
 go_enter Try.func34,Try.ntmps34
 go_wp2_with fail
 refine Ap 3 (fun C HC => ?_)
 go_wp2_with (first | ((with_reducible refine AV (N:=17) rfl ?_); (refine wpList_load_row rfl 27 (.tmp 5) rfl w.heap.size (by rfl) 27 #[.int .i64 p.kind,.int .u32 p.mine,.int .u32 p.AL,.int .u32 p.yours,.int .u32 p.seq,.int .u32 p.AX,.int .u32 p.stamp,.int .u32 p.echo,.complex .f64 p.zr p.zi,.slice Ab p.body.length cb] (0,0) _ Fh.out Try.underlying27 rfl (by kernel_rfl) ?_)) | (go_at_call 20; (refine (check_any _ _ _ _ _ _ _ _ _ _ _ _ _ _ EF.out.zr EF.out.zi).mono ?_); (rintro e BH ⟨rfl,hb⟩); (rw [Es.out]); (have K0:=Lib.hid (TS.start (pc:=#[.int .i64 p.kind,.int .u32 p.mine,.int .u32 p.AL,.int .u32 p.yours,.int .u32 p.seq,.int .u32 p.AX,.int .u32 p.stamp,.int .u32 p.echo,.complex .f64 p.zr p.zi,.slice Ab p.body.length cb]) H.out HS.out hB (hb.mono (by simp)))); (clear hb); (have hl1:BH.cell? ⟨g,1,none⟩ = some (.int .i64 2):=(AA K0.out.at_.blk 1).trans (congrArg (fun x => some (Value.int .i64 x)) EO.out)); (have hp0:BH.cell? ⟨w.heap.size,0,none⟩ = some (.int .i64 p.kind):=(AA K0.out.pb 0).trans rfl); (have hp1:BH.cell? ⟨w.heap.size,1,none⟩ = some (.int .u32 p.mine):=(AA K0.out.pb 1).trans rfl)) | (go_at_call 76; (refine (Ci K0.out.at_ AL p.mine).mono ?_); (rintro e w1 ⟨rfl,rfl⟩); (rw [G7.out])) | ((with_reducible refine AV (N:=59) rfl ?_); (refine Ce (by rfl) ?_); (refine wpList_load_row rfl 27 (.tmp 5) rfl w.heap.size (by rfl) 27 _ (0,0) _ (by first | exact K0.out.pb | exact (K0.out.drewN hB _).pb) Try.underlying27 rfl (by kernel_rfl) ?_)) | (go_at_call 77; (refine (DL K0.out.at_ p (.slice Ab p.body.length cb)).mono ?_); (rintro e CQ ⟨rfl,hb⟩); (have hme:BQ (L) p = true:=IJ.out); (rw [hme]); (clear hme); (have K1:=Lib.hid (K0.out.sub hB hb)); (clear hb); (clear hl1 hp0 hp1)) | ((with_reducible refine gate_ (.store 4 (.tmp 62) (.const (.bool true))) rfl ?_); (refine AZ (fun wz => TS w B S g #[.int .i64 p.kind,.int .u32 p.mine,.int .u32 p.AL,.int .u32 p.yours,.int .u32 p.seq,.int .u32 p.AX,.int .u32 p.stamp,.int .u32 p.echo,.complex .f64 p.zr p.zi,.slice Ab p.body.length cb] Af Ac (fun _ => False) (L) q o true false false (.slice none 0 0) [] wz) rfl rfl ⟨_,(by have hz1:World.cell? CQ ⟨w.heap.size + 1,0,none⟩ = some _:=(AA K1.out.tb 0).trans rfl; have hz2:=AB K1.out.tb 0; first | (go_simp; done) | (go_simp; rfl)),TS.EK K1.out hB 0 _ rfl⟩ (fun BM hF => ?_)); (have K2:=Lib.hid hF); (clear hF); (have Lh:BM.cell? ⟨g,9,none⟩ = some (.int .u32 L.expected):=(AA K2.out.at_.blk 9).trans rfl); (have hp0:BM.cell? ⟨w.heap.size,0,none⟩ = some (.int .i64 p.kind):=(AA K2.out.pb 0).trans rfl); (have J9:BM.cell? ⟨w.heap.size,4,none⟩ = some (.int .u32 p.seq):=(AA K2.out.pb 4).trans rfl)))
 refine wp_goto ?_
 refine Jump.goto HC.out rfl ?_
 go_wp2_with fail
 go_quiet (fail)
 rename Nat => FY
 clear Lh hp0 J9
 have J3:BM.cell? ⟨g,8,none⟩ = some (.int .u32 L.base):=(AA K2.out.at_.blk 8).trans rfl
 have JW:BM.cell? ⟨g,7,none⟩ = some (.int .i64 L.sent):=(AA K2.out.at_.blk 7).trans rfl
 exact jV
end Go.Proofs.Ytnkkgofpifhoeaa.Lk
end
