/- What the laws of a pair are proved with: links and pairs in memory, what their methods do, what a pair keeps to (part 16). -/
import Derived.Test.YtnkkgofpifhoeaaPG15
import Derived.Test.YtnkkgofpifhoeaaPG14
set_option linter.unusedSimpArgs false
set_option linter.unusedVariables false
set_option maxRecDepth 100000
set_option maxHeartbeats 16000000
namespace Go.Proofs.Ytnkkgofpifhoeaa
theorem pW {p:Prop} (h:p:=by
 have QS:BG.cell? ⟨w.heap.size,5,none⟩ = some (.int .u32 p.AX):=(AA K2.out.pb 5).trans rfl
 have hp0:BG.cell? ⟨w.heap.size,0,none⟩ = some (.int .i64 p.kind):=(AA K2.out.pb 0).trans rfl
 go_wp2_with fail
 go_quiet ((go_at_call 79; refine (Eh _ _ _).mono fun _ _ hq => ⟨hq.1.trans (congrArg (fun x => Ending.returned (.int .u32 x)) HKK.out),_,hq.2.symm⟩))
 rename Nat => E5
 go_wp2_with fail
 refine wp_label ?_
 exact pU):p:=h
end Go.Proofs.Ytnkkgofpifhoeaa
section
namespace Go.Proofs.Ytnkkgofpifhoeaa.Lk
open Go.RowKit Go.Proofs.Ytnkkgofpifhoeaa.Base Go.Proofs.Ytnkkgofpifhoeaa.Steps Go.Proofs.Ytnkkgofpifhoeaa.Pk Go.Proofs.Ytnkkgofpifhoeaa.Zv Go.Proofs.YtnkkgofpifhoeaaW.PrintWords Go.Proofs.YtnkkgofpifhoeaaW.PrintLast
theorem O0 {w:World} {B g:Nat} {Af Ac S:Nat → Prop} {L:Lk} {q o:Value} (h:At w B Af Ac g L q o) (hok:L.Ok) (hS:∀ k,holds Af Ac g k → S k) (hB:B ≤ w.heap.size) (AL:Int) (p:BJ) (Ab:Option Addr) (cb:Nat)
  (hb0:AL ≠ 0) (hbr:0 ≤ AL ∧ AL < 4294967296) (hpr:p.Jw) (hck:Ah p.kind p.mine p.AL p.yours p.seq p.AX p.stamp p.echo p.zr p.zi p.body.length = 0)  (Ci:L.phase = 2) (hag:Dj L AL p.mine = 0) (hmn:BU L p = true) (hpl:p.body.length ≤ 1000) {DI:Nat → Prop} (hR:(Kd.int .u8).R 5 w B DI (.slice Ab p.body.length cb) p.body) (hkp:∀ k,DI k → ¬ S k) (kn:Nat) (hkk:IntKind.u32.wrap (p.AX - L.base) = kn) (hkn:p.kind ≠ 1) (hkm:p.kind ≠ 2) (h1k:1 ≤ kn) (hks:(kn:Int) ≤ L.sent) :
  Calls Try.prog 34 #[.pointer (some ⟨g,0,none⟩),.int .u32 AL,.agg #[.int .i64 p.kind,.int .u32 p.mine,.int .u32 p.AL,.int .u32 p.yours,.int .u32 p.seq,.int .u32 p.AX,.int .u32 p.stamp,.int .u32 p.echo,.complex .f64 p.zr p.zi,.slice Ab p.body.length cb]] w fun e w' => Ei w B S g (BX (Cj (L) kn)) true false false [] e w':=by
 have GU:=Lib.hid (show (((w.alloc (.cells #[.int .i64 p.kind,.int .u32 p.mine,.int .u32 p.AL,.int .u32 p.yours,.int .u32 p.seq,.int .u32 p.AX,.int .u32 p.stamp,.int .u32 p.echo,.complex .f64 p.zr p.zi,.slice Ab p.body.length cb] 27)).alloc (.cells #[.bool false,.bool false,.bool false,.slice none 0 0] 56))).heap[w.heap.size]? = some (.cells #[.int .i64 p.kind,.int .u32 p.mine,.int .u32 p.AL,.int .u32 p.yours,.int .u32 p.seq,.int .u32 p.AX,.int .u32 p.stamp,.int .u32 p.echo,.complex .f64 p.zr p.zi,.slice Ab p.body.length cb] 27 (0,0)) from (Below.heap_alloc _ _ _ (by simp)).trans (heap_alloc_new w _))
 have H:=Lib.hid h
 have OK:=Lib.hid hok
 have HS:=Lib.hid hS
 have EN:=Lib.hid hpr
 have FK:=Lib.hid hck
 have hbz:(AL == 0) = false:=by simp [hb0]
 have ES:=Lib.hid Ci
 clear Ci
 have IQ:=Lib.hid hag
 clear hag
 clear hbr
 have I5:=Lib.hid hmn
 clear hmn
 have UN:=Lib.hid hR
 have UO:=Lib.hid hkp
 have KG:=Lib.hid hpl
 clear hR hkp hpl
 have HKK:=Lib.hid hkk
 clear hkk
 have hlb:=OK.out.sent
 have UQ:=OK.out.queue
 have hd4:(p.kind == 1) = false:=by simp [hkn]
 have hd5:(p.kind == 2) = false:=by simp [hkm]
 clear hkn hkm
 have hd7:decide ((kn:Int) ≥ 1) = true:=by simp; omega
 have hd8:decide ((kn:Int) ≤ L.sent) = true:=by simp; omega
 have hw8:IntKind.u32.wrap L.sent = L.sent:=by rw [Jv]; omega
 clear h1k
 have O1:=Lib.hid hks
 clear hks
 obtain ⟨A6,c6,hq6,Kr⟩:=Kd.FT h.queue
 subst hq6
 have UR:=Lib.hid (show kn ≤ L.queue.length by have:=O1.out; omega)
 have hsl:=MB A6 L.queue.length c6 kn UR.out Kr
 obtain ⟨A7,RJ⟩:∃ A,A = (if c6 = kn then A6 else A6.map (·.add (kn * bytes.sz))):=⟨_,rfl⟩
 rw [← RJ] at hsl
 have Zx:=Lib.hid RJ
 clear RJ
 clear Kr
 have hkq:=UR.out
 generalize SS:L.queue.length = qn at H hsl hkq hlb UQ
 have Zr:=Lib.hid SS
 clear SS
 have hc4:kn < 4294967296:=by omega
 clear h hok hS hpr hck hb0
 go_enter Try.func34,Try.ntmps34
 go_wp2_with fail
 refine Ap 3 (fun C HC => ?_)
 go_wp2_with (first | ((with_reducible refine AV (N:=17) rfl ?_); (refine wpList_load_row rfl 27 (.tmp 5) rfl w.heap.size (by rfl) 27 #[.int .i64 p.kind,.int .u32 p.mine,.int .u32 p.AL,.int .u32 p.yours,.int .u32 p.seq,.int .u32 p.AX,.int .u32 p.stamp,.int .u32 p.echo,.complex .f64 p.zr p.zi,.slice Ab p.body.length cb] (0,0) _ GU.out Try.underlying27 rfl (by kernel_rfl) ?_)) | (go_at_call 20; (refine (check_any _ _ _ _ _ _ _ _ _ _ _ _ _ _ EN.out.zr EN.out.zi).mono ?_); (rintro e BF ⟨rfl,hb⟩); (rw [FK.out]); (have K0:=Lib.hid (TS.start (pc:=#[.int .i64 p.kind,.int .u32 p.mine,.int .u32 p.AL,.int .u32 p.yours,.int .u32 p.seq,.int .u32 p.AX,.int .u32 p.stamp,.int .u32 p.echo,.complex .f64 p.zr p.zi,.slice Ab p.body.length cb]) H.out HS.out hB (hb.mono (by simp)))); (clear hb); (have hl1:BF.cell? ⟨g,1,none⟩ = some (.int .i64 2):=(AA K0.out.at_.blk 1).trans (congrArg (fun x => some (Value.int .i64 x)) ES.out)); (have hp0:BF.cell? ⟨w.heap.size,0,none⟩ = some (.int .i64 p.kind):=(AA K0.out.pb 0).trans rfl); (have hp1:BF.cell? ⟨w.heap.size,1,none⟩ = some (.int .u32 p.mine):=(AA K0.out.pb 1).trans rfl)) | (go_at_call 76; (refine (C9 K0.out.at_ AL p.mine).mono ?_); (rintro e w1 ⟨rfl,rfl⟩); (rw [IQ.out])) | ((with_reducible refine AV (N:=59) rfl ?_); (refine Cf (by rfl) ?_); (refine wpList_load_row rfl 27 (.tmp 5) rfl w.heap.size (by rfl) 27 _ (0,0) _ (by first | exact K0.out.pb | exact (K0.out.drewN hB _).pb) Try.underlying27 rfl (by kernel_rfl) ?_)) | (go_at_call 77; (refine (DV K0.out.at_ p (.slice Ab p.body.length cb)).mono ?_); (rintro e Bl ⟨rfl,hb⟩); (have hme:BU (L) p = true:=I5.out); (rw [hme]); (clear hme); (have K1:=Lib.hid (K0.out.sub hB hb)); (clear hb); (clear hl1 hp0 hp1)) | ((with_reducible refine gate_ (.store 4 (.tmp 62) (.const (.bool true))) rfl ?_); (refine AY (fun wz => TS w B S g #[.int .i64 p.kind,.int .u32 p.mine,.int .u32 p.AL,.int .u32 p.yours,.int .u32 p.seq,.int .u32 p.AX,.int .u32 p.stamp,.int .u32 p.echo,.complex .f64 p.zr p.zi,.slice Ab p.body.length cb] Af Ac (fun _ => False) (L) (.slice A6 qn c6) o true false false (.slice none 0 0) [] wz) rfl rfl ⟨_,(by have hz1:World.cell? Bl ⟨w.heap.size + 1,0,none⟩ = some _:=(AA K1.out.tb 0).trans rfl; have hz2:=AB K1.out.tb 0; first | (go_simp; done) | (go_simp; rfl)),TS.EY K1.out hB 0 _ rfl⟩ (fun BG hF => ?_)); (have K2:=Lib.hid hF); (clear hF); (have MS:BG.cell? ⟨g,9,none⟩ = some (.int .u32 L.expected):=(AA K2.out.at_.blk 9).trans rfl); (have hp0:BG.cell? ⟨w.heap.size,0,none⟩ = some (.int .i64 p.kind):=(AA K2.out.pb 0).trans rfl); (have Kt:BG.cell? ⟨w.heap.size,4,none⟩ = some (.int .u32 p.seq):=(AA K2.out.pb 4).trans rfl)))
 refine wp_goto ?_
 refine Jump.goto HC.out rfl ?_
 go_wp2_with fail
 go_quiet (fail)
 rename Nat => F9
 clear MS hp0 Kt
 have KU:BG.cell? ⟨g,8,none⟩ = some (.int .u32 L.base):=(AA K2.out.at_.blk 8).trans rfl
 have Kr:BG.cell? ⟨g,6,none⟩ = some ((.slice A6 qn c6)):=(AA K2.out.at_.blk 6).trans rfl
 have He:BG.cell? ⟨g,7,none⟩ = some (.int .i64 L.sent):=(AA K2.out.at_.blk 7).trans rfl
 have QS:BG.cell? ⟨w.heap.size,5,none⟩ = some (.int .u32 p.AX):=(AA K2.out.pb 5).trans rfl
 have hp0:BG.cell? ⟨w.heap.size,0,none⟩ = some (.int .i64 p.kind):=(AA K2.out.pb 0).trans rfl
 go_wp2_with fail
 go_quiet ((go_at_call 79; refine (Eh _ _ _).mono fun _ _ hq => ⟨hq.1.trans (congrArg (fun x => Ending.returned (.int .u32 x)) HKK.out),_,hq.2.symm⟩))
 rename Nat => E5
 go_wp2_with (first | ((with_reducible refine gate_ (.store 45 (.tmp 162) (.tmp 160)) rfl ?_); (refine AY (fun wz => TS w B S g #[.int .i64 p.kind,.int .u32 p.mine,.int .u32 p.AL,.int .u32 p.yours,.int .u32 p.seq,.int .u32 p.AX,.int .u32 p.stamp,.int .u32 p.echo,.complex .f64 p.zr p.zi,.slice Ab p.body.length cb] Af Ac (fun _ => False) ({ L with queue:=(L).queue.drop kn }) (.slice A7 (qn - kn) (c6 - kn)) o true false false (.slice none 0 0) [] wz) rfl rfl ⟨_,(by have hz1:World.cell? BG ⟨g,6,none⟩ = some _:=(AA K2.out.at_.blk 6).trans rfl; have hz2:=AB K2.out.at_.blk 6; first | (go_simp; done) | (go_simp; rfl)),TS.cut (K2.out.drewN hB (F9 + E5)) hB rfl UR.out Zx.out⟩ (fun CJ hF => ?_)); (have K3:=Lib.hid hF); (clear hF); (clear KU Kr He QS hp0); (have KU:CJ.cell? ⟨g,8,none⟩ = some (.int .u32 L.base):=(AA K3.out.at_.blk 8).trans rfl); (have He:CJ.cell? ⟨g,7,none⟩ = some (.int .i64 L.sent):=(AA K3.out.at_.blk 7).trans rfl); (have hp0:CJ.cell? ⟨w.heap.size,0,none⟩ = some (.int .i64 p.kind):=(AA K3.out.pb 0).trans rfl)) | ((with_reducible refine gate_ (.store 24 (.tmp 170) (.tmp 168)) rfl ?_); (have hT:TS w B S g #[.int .i64 p.kind,.int .u32 p.mine,.int .u32 p.AL,.int .u32 p.yours,.int .u32 p.seq,.int .u32 p.AX,.int .u32 p.stamp,.int .u32 p.echo,.complex .f64 p.zr p.zi,.slice Ab p.body.length cb] Af Ac (fun _ => False) ({ L with queue:=(L).queue.drop kn,base:=IntKind.u32.wrap (L.base + kn) }) (.slice A7 (qn - kn) (c6 - kn)) o true false false (.slice none 0 0) [] (World.setCell CJ ⟨g,8,none⟩ (.int .u32 (IntKind.u32.wrap (L.base + kn)))):=TS.Dz K3.out hB 8 (.int .u32 (IntKind.u32.wrap (L.base + kn))) rfl rfl rfl); (refine AY (fun wz => TS w B S g #[.int .i64 p.kind,.int .u32 p.mine,.int .u32 p.AL,.int .u32 p.yours,.int .u32 p.seq,.int .u32 p.AX,.int .u32 p.stamp,.int .u32 p.echo,.complex .f64 p.zr p.zi,.slice Ab p.body.length cb] Af Ac (fun _ => False) ({ L with queue:=(L).queue.drop kn,base:=IntKind.u32.wrap (L.base + kn) }) (.slice A7 (qn - kn) (c6 - kn)) o true false false (.slice none 0 0) [] wz) rfl rfl ⟨_,(by have hz1:World.cell? CJ ⟨g,8,none⟩ = some _:=(AA K3.out.at_.blk 8).trans rfl; have hz2:=AB K3.out.at_.blk 8; first | (go_simp; done) | (go_simp; rfl)),hT⟩ (fun Dl hF => ?_)); (have K4:=Lib.hid hF); (clear hF hT); (clear KU He hp0); (have He:Dl.cell? ⟨g,7,none⟩ = some (.int .i64 L.sent):=(AA K4.out.at_.blk 7).trans rfl); (have hp0:Dl.cell? ⟨w.heap.size,0,none⟩ = some (.int .i64 p.kind):=(AA K4.out.pb 0).trans rfl)) | ((with_reducible refine gate_ (.store 3 (.tmp 179) (.tmp 177)) rfl ?_); (have hT:TS w B S g #[.int .i64 p.kind,.int .u32 p.mine,.int .u32 p.AL,.int .u32 p.yours,.int .u32 p.seq,.int .u32 p.AX,.int .u32 p.stamp,.int .u32 p.echo,.complex .f64 p.zr p.zi,.slice Ab p.body.length cb] Af Ac (fun _ => False) ({ L with queue:=(L).queue.drop kn,base:=IntKind.u32.wrap (L.base + kn),sent:=L.sent - kn }) (.slice A7 (qn - kn) (c6 - kn)) o true false false (.slice none 0 0) [] (World.setCell Dl ⟨g,7,none⟩ (.int .i64 (L.sent - kn))):=TS.Dz K4.out hB 7 (.int .i64 (L.sent - kn)) rfl rfl rfl); (refine AY (fun wz => TS w B S g #[.int .i64 p.kind,.int .u32 p.mine,.int .u32 p.AL,.int .u32 p.yours,.int .u32 p.seq,.int .u32 p.AX,.int .u32 p.stamp,.int .u32 p.echo,.complex .f64 p.zr p.zi,.slice Ab p.body.length cb] Af Ac (fun _ => False) ({ L with queue:=(L).queue.drop kn,base:=IntKind.u32.wrap (L.base + kn),sent:=L.sent - kn }) (.slice A7 (qn - kn) (c6 - kn)) o true false false (.slice none 0 0) [] wz) rfl rfl ⟨_,(by have hz1:World.cell? Dl ⟨g,7,none⟩ = some _:=(AA K4.out.at_.blk 7).trans rfl; have hz2:=AB K4.out.at_.blk 7; first | (go_simp; done) | (go_simp; rfl)),hT⟩ (fun ED hF => ?_)); (have K5:=Lib.hid hF); (clear hF hT); (clear He hp0); (have hp0:ED.cell? ⟨w.heap.size,0,none⟩ = some (.int .i64 p.kind):=(AA K5.out.pb 0).trans rfl)) | ((with_reducible refine gate_ (.store 3 (.tmp 182) (.const (.int .i64 0))) rfl ?_); (have hT:TS w B S g #[.int .i64 p.kind,.int .u32 p.mine,.int .u32 p.AL,.int .u32 p.yours,.int .u32 p.seq,.int .u32 p.AX,.int .u32 p.stamp,.int .u32 p.echo,.complex .f64 p.zr p.zi,.slice Ab p.body.length cb] Af Ac (fun _ => False) (Cj (L) kn) (.slice A7 (qn - kn) (c6 - kn)) o true false false (.slice none 0 0) [] (World.setCell ED ⟨g,10,none⟩ (.int .i64 0)):=TS.Dz K5.out hB 10 (.int .i64 0) rfl rfl rfl); (refine AY (fun wz => TS w B S g #[.int .i64 p.kind,.int .u32 p.mine,.int .u32 p.AL,.int .u32 p.yours,.int .u32 p.seq,.int .u32 p.AX,.int .u32 p.stamp,.int .u32 p.echo,.complex .f64 p.zr p.zi,.slice Ab p.body.length cb] Af Ac (fun _ => False) (Cj (L) kn) (.slice A7 (qn - kn) (c6 - kn)) o true false false (.slice none 0 0) [] wz) rfl rfl ⟨_,(by have hz1:World.cell? ED ⟨g,10,none⟩ = some _:=(AA K5.out.at_.blk 10).trans rfl; have hz2:=AB K5.out.at_.blk 10; first | (go_simp; done) | (go_simp; rfl)),hT⟩ (fun IM hF => ?_)); (have K6:=Lib.hid hF); (clear hF hT); (clear hp0); (have hp0:IM.cell? ⟨w.heap.size,0,none⟩ = some (.int .i64 p.kind):=(AA K6.out.pb 0).trans rfl)) | (go_at_call 74; (refine (Jf K6.out.at_ (JC (OK.out) O1.out) (Nat.le_trans hB K6.out.kept.1)).mono ?_); (rintro e Hz ⟨rfl,hE⟩); (obtain ⟨Ox,UJ,hF⟩:=TS.Gx K6.out hB hE); (clear hE); (have K7:=Lib.hid hF); (clear hF); (clear hp0); (have hp0:Hz.cell? ⟨w.heap.size,0,none⟩ = some (.int .i64 p.kind):=(AA K7.out.pb 0).trans rfl)))
 refine wp_label ?_
 exact YG
theorem O3 {w:World} {B g:Nat} {Af Ac S:Nat → Prop} {L:Lk} {q o:Value} (h:At w B Af Ac g L q o) (hok:L.Ok) (hS:∀ k,holds Af Ac g k → S k) (hB:B ≤ w.heap.size) (AL:Int) (p:BJ) (Ab:Option Addr) (cb:Nat)
  (hb0:AL ≠ 0) (hbr:0 ≤ AL ∧ AL < 4294967296) (hpr:p.Jw) (hck:Ah p.kind p.mine p.AL p.yours p.seq p.AX p.stamp p.echo p.zr p.zi p.body.length = 0)  (Ci:L.phase = 2) (hag:Dj L AL p.mine = 0) (hmn:BU L p = true) (hpl:p.body.length ≤ 1000) {DI:Nat → Prop} (hR:(Kd.int .u8).R 5 w B DI (.slice Ab p.body.length cb) p.body) (hkp:∀ k,DI k → ¬ S k) (kn:Nat) (hkk:IntKind.u32.wrap (p.AX - L.base) = kn) (hkn:p.kind ≠ 1) (hkm:p.kind ≠ 2) (h1k:kn = 0) :
  Calls Try.prog 34 #[.pointer (some ⟨g,0,none⟩),.int .u32 AL,.agg #[.int .i64 p.kind,.int .u32 p.mine,.int .u32 p.AL,.int .u32 p.yours,.int .u32 p.seq,.int .u32 p.AX,.int .u32 p.stamp,.int .u32 p.echo,.complex .f64 p.zr p.zi,.slice Ab p.body.length cb]] w fun e w' => Ei w B S g (L) true false false [] e w':=by
 have GU:=Lib.hid (show (((w.alloc (.cells #[.int .i64 p.kind,.int .u32 p.mine,.int .u32 p.AL,.int .u32 p.yours,.int .u32 p.seq,.int .u32 p.AX,.int .u32 p.stamp,.int .u32 p.echo,.complex .f64 p.zr p.zi,.slice Ab p.body.length cb] 27)).alloc (.cells #[.bool false,.bool false,.bool false,.slice none 0 0] 56))).heap[w.heap.size]? = some (.cells #[.int .i64 p.kind,.int .u32 p.mine,.int .u32 p.AL,.int .u32 p.yours,.int .u32 p.seq,.int .u32 p.AX,.int .u32 p.stamp,.int .u32 p.echo,.complex .f64 p.zr p.zi,.slice Ab p.body.length cb] 27 (0,0)) from (Below.heap_alloc _ _ _ (by simp)).trans (heap_alloc_new w _))
 have H:=Lib.hid h
 have OK:=Lib.hid hok
 have HS:=Lib.hid hS
 have EN:=Lib.hid hpr
 have FK:=Lib.hid hck
 have hbz:(AL == 0) = false:=by simp [hb0]
 have ES:=Lib.hid Ci
 clear Ci
 have IQ:=Lib.hid hag
 clear hag
 clear hbr
 have I5:=Lib.hid hmn
 clear hmn
 have UN:=Lib.hid hR
 have UO:=Lib.hid hkp
 have KG:=Lib.hid hpl
 clear hR hkp hpl
 have HKK:=Lib.hid hkk
 clear hkk
 have hlb:=OK.out.sent
 have UQ:=OK.out.queue
 have hd4:(p.kind == 1) = false:=by simp [hkn]
 have hd5:(p.kind == 2) = false:=by simp [hkm]
 clear hkn hkm
 have hd7:decide ((kn:Int) ≥ 1) = false:=by simp; omega
 clear h1k
 clear h hok hS hpr hck hb0
 go_enter Try.func34,Try.ntmps34
 go_wp2_with fail
 refine Ap 3 (fun C HC => ?_)
 go_wp2_with (first | ((with_reducible refine AV (N:=17) rfl ?_); (refine wpList_load_row rfl 27 (.tmp 5) rfl w.heap.size (by rfl) 27 #[.int .i64 p.kind,.int .u32 p.mine,.int .u32 p.AL,.int .u32 p.yours,.int .u32 p.seq,.int .u32 p.AX,.int .u32 p.stamp,.int .u32 p.echo,.complex .f64 p.zr p.zi,.slice Ab p.body.length cb] (0,0) _ GU.out Try.underlying27 rfl (by kernel_rfl) ?_)) | (go_at_call 20; (refine (check_any _ _ _ _ _ _ _ _ _ _ _ _ _ _ EN.out.zr EN.out.zi).mono ?_); (rintro e BF ⟨rfl,hb⟩); (rw [FK.out]); (have K0:=Lib.hid (TS.start (pc:=#[.int .i64 p.kind,.int .u32 p.mine,.int .u32 p.AL,.int .u32 p.yours,.int .u32 p.seq,.int .u32 p.AX,.int .u32 p.stamp,.int .u32 p.echo,.complex .f64 p.zr p.zi,.slice Ab p.body.length cb]) H.out HS.out hB (hb.mono (by simp)))); (clear hb); (have hl1:BF.cell? ⟨g,1,none⟩ = some (.int .i64 2):=(AA K0.out.at_.blk 1).trans (congrArg (fun x => some (Value.int .i64 x)) ES.out)); (have hp0:BF.cell? ⟨w.heap.size,0,none⟩ = some (.int .i64 p.kind):=(AA K0.out.pb 0).trans rfl); (have hp1:BF.cell? ⟨w.heap.size,1,none⟩ = some (.int .u32 p.mine):=(AA K0.out.pb 1).trans rfl)) | (go_at_call 76; (refine (C9 K0.out.at_ AL p.mine).mono ?_); (rintro e w1 ⟨rfl,rfl⟩); (rw [IQ.out])) | ((with_reducible refine AV (N:=59) rfl ?_); (refine Cf (by rfl) ?_); (refine wpList_load_row rfl 27 (.tmp 5) rfl w.heap.size (by rfl) 27 _ (0,0) _ (by first | exact K0.out.pb | exact (K0.out.drewN hB _).pb) Try.underlying27 rfl (by kernel_rfl) ?_)) | (go_at_call 77; (refine (DV K0.out.at_ p (.slice Ab p.body.length cb)).mono ?_); (rintro e Bl ⟨rfl,hb⟩); (have hme:BU (L) p = true:=I5.out); (rw [hme]); (clear hme); (have K1:=Lib.hid (K0.out.sub hB hb)); (clear hb); (clear hl1 hp0 hp1)) | ((with_reducible refine gate_ (.store 4 (.tmp 62) (.const (.bool true))) rfl ?_); (refine AY (fun wz => TS w B S g #[.int .i64 p.kind,.int .u32 p.mine,.int .u32 p.AL,.int .u32 p.yours,.int .u32 p.seq,.int .u32 p.AX,.int .u32 p.stamp,.int .u32 p.echo,.complex .f64 p.zr p.zi,.slice Ab p.body.length cb] Af Ac (fun _ => False) (L) q o true false false (.slice none 0 0) [] wz) rfl rfl ⟨_,(by have hz1:World.cell? Bl ⟨w.heap.size + 1,0,none⟩ = some _:=(AA K1.out.tb 0).trans rfl; have hz2:=AB K1.out.tb 0; first | (go_simp; done) | (go_simp; rfl)),TS.EY K1.out hB 0 _ rfl⟩ (fun BG hF => ?_)); (have K2:=Lib.hid hF); (clear hF); (have MS:BG.cell? ⟨g,9,none⟩ = some (.int .u32 L.expected):=(AA K2.out.at_.blk 9).trans rfl); (have hp0:BG.cell? ⟨w.heap.size,0,none⟩ = some (.int .i64 p.kind):=(AA K2.out.pb 0).trans rfl); (have Kt:BG.cell? ⟨w.heap.size,4,none⟩ = some (.int .u32 p.seq):=(AA K2.out.pb 4).trans rfl)))
 refine wp_goto ?_
 refine Jump.goto HC.out rfl ?_
 go_wp2_with fail
 go_quiet (fail)
 rename Nat => F9
 clear MS hp0 Kt
 have KU:BG.cell? ⟨g,8,none⟩ = some (.int .u32 L.base):=(AA K2.out.at_.blk 8).trans rfl
 exact pW
theorem O4 {w:World} {B g:Nat} {Af Ac S:Nat → Prop} {L:Lk} {q o:Value} (h:At w B Af Ac g L q o) (hok:L.Ok) (hS:∀ k,holds Af Ac g k → S k) (hB:B ≤ w.heap.size) (AL:Int) (p:BJ) (Ab:Option Addr) (cb:Nat)
  (hb0:AL ≠ 0) (hbr:0 ≤ AL ∧ AL < 4294967296) (hpr:p.Jw) (hck:Ah p.kind p.mine p.AL p.yours p.seq p.AX p.stamp p.echo p.zr p.zi p.body.length = 0)  (Ci:L.phase = 2) (hag:Dj L AL p.mine = 0) (hmn:BU L p = true) (hpl:p.body.length ≤ 1000) {DI:Nat → Prop} (hR:(Kd.int .u8).R 5 w B DI (.slice Ab p.body.length cb) p.body) (hkp:∀ k,DI k → ¬ S k) (kn:Nat) (hkk:IntKind.u32.wrap (p.AX - L.base) = kn) (hkn:p.kind ≠ 1) (hkm:p.kind ≠ 2) (h1k:1 ≤ kn) (hks:L.sent < (kn:Int)) :
  Calls Try.prog 34 #[.pointer (some ⟨g,0,none⟩),.int .u32 AL,.agg #[.int .i64 p.kind,.int .u32 p.mine,.int .u32 p.AL,.int .u32 p.yours,.int .u32 p.seq,.int .u32 p.AX,.int .u32 p.stamp,.int .u32 p.echo,.complex .f64 p.zr p.zi,.slice Ab p.body.length cb]] w fun e w' => Ei w B S g (L) true false false [] e w':=by
 have GU:=Lib.hid (show (((w.alloc (.cells #[.int .i64 p.kind,.int .u32 p.mine,.int .u32 p.AL,.int .u32 p.yours,.int .u32 p.seq,.int .u32 p.AX,.int .u32 p.stamp,.int .u32 p.echo,.complex .f64 p.zr p.zi,.slice Ab p.body.length cb] 27)).alloc (.cells #[.bool false,.bool false,.bool false,.slice none 0 0] 56))).heap[w.heap.size]? = some (.cells #[.int .i64 p.kind,.int .u32 p.mine,.int .u32 p.AL,.int .u32 p.yours,.int .u32 p.seq,.int .u32 p.AX,.int .u32 p.stamp,.int .u32 p.echo,.complex .f64 p.zr p.zi,.slice Ab p.body.length cb] 27 (0,0)) from (Below.heap_alloc _ _ _ (by simp)).trans (heap_alloc_new w _))
 have H:=Lib.hid h
 have OK:=Lib.hid hok
 have HS:=Lib.hid hS
 have EN:=Lib.hid hpr
 have FK:=Lib.hid hck
 have hbz:(AL == 0) = false:=by simp [hb0]
 have ES:=Lib.hid Ci
 clear Ci
 have IQ:=Lib.hid hag
 clear hag
 clear hbr
 have I5:=Lib.hid hmn
 clear hmn
 have UN:=Lib.hid hR
 have UO:=Lib.hid hkp
 have KG:=Lib.hid hpl
 clear hR hkp hpl
 have HKK:=Lib.hid hkk
 clear hkk
 have hlb:=OK.out.sent
 have UQ:=OK.out.queue
 have hd4:(p.kind == 1) = false:=by simp [hkn]
 have hd5:(p.kind == 2) = false:=by simp [hkm]
 clear hkn hkm
 have hd7:decide ((kn:Int) ≥ 1) = true:=by simp; omega
 have hd8:decide ((kn:Int) ≤ L.sent) = false:=by simp; omega
 have hw8:IntKind.u32.wrap L.sent = L.sent:=by rw [Jv]; omega
 clear h1k
 have O1:=Lib.hid hks
 clear hks
 clear h hok hS hpr hck hb0
 go_enter Try.func34,Try.ntmps34
 go_wp2_with fail
 refine Ap 3 (fun C HC => ?_)
 go_wp2_with (first | ((with_reducible refine AV (N:=17) rfl ?_); (refine wpList_load_row rfl 27 (.tmp 5) rfl w.heap.size (by rfl) 27 #[.int .i64 p.kind,.int .u32 p.mine,.int .u32 p.AL,.int .u32 p.yours,.int .u32 p.seq,.int .u32 p.AX,.int .u32 p.stamp,.int .u32 p.echo,.complex .f64 p.zr p.zi,.slice Ab p.body.length cb] (0,0) _ GU.out Try.underlying27 rfl (by kernel_rfl) ?_)) | (go_at_call 20; (refine (check_any _ _ _ _ _ _ _ _ _ _ _ _ _ _ EN.out.zr EN.out.zi).mono ?_); (rintro e BF ⟨rfl,hb⟩); (rw [FK.out]); (have K0:=Lib.hid (TS.start (pc:=#[.int .i64 p.kind,.int .u32 p.mine,.int .u32 p.AL,.int .u32 p.yours,.int .u32 p.seq,.int .u32 p.AX,.int .u32 p.stamp,.int .u32 p.echo,.complex .f64 p.zr p.zi,.slice Ab p.body.length cb]) H.out HS.out hB (hb.mono (by simp)))); (clear hb); (have hl1:BF.cell? ⟨g,1,none⟩ = some (.int .i64 2):=(AA K0.out.at_.blk 1).trans (congrArg (fun x => some (Value.int .i64 x)) ES.out)); (have hp0:BF.cell? ⟨w.heap.size,0,none⟩ = some (.int .i64 p.kind):=(AA K0.out.pb 0).trans rfl); (have hp1:BF.cell? ⟨w.heap.size,1,none⟩ = some (.int .u32 p.mine):=(AA K0.out.pb 1).trans rfl)) | (go_at_call 76; (refine (C9 K0.out.at_ AL p.mine).mono ?_); (rintro e w1 ⟨rfl,rfl⟩); (rw [IQ.out])) | ((with_reducible refine AV (N:=59) rfl ?_); (refine Cf (by rfl) ?_); (refine wpList_load_row rfl 27 (.tmp 5) rfl w.heap.size (by rfl) 27 _ (0,0) _ (by first | exact K0.out.pb | exact (K0.out.drewN hB _).pb) Try.underlying27 rfl (by kernel_rfl) ?_)) | (go_at_call 77; (refine (DV K0.out.at_ p (.slice Ab p.body.length cb)).mono ?_); (rintro e Bl ⟨rfl,hb⟩); (have hme:BU (L) p = true:=I5.out); (rw [hme]); (clear hme); (have K1:=Lib.hid (K0.out.sub hB hb)); (clear hb); (clear hl1 hp0 hp1)) | ((with_reducible refine gate_ (.store 4 (.tmp 62) (.const (.bool true))) rfl ?_); (refine AY (fun wz => TS w B S g #[.int .i64 p.kind,.int .u32 p.mine,.int .u32 p.AL,.int .u32 p.yours,.int .u32 p.seq,.int .u32 p.AX,.int .u32 p.stamp,.int .u32 p.echo,.complex .f64 p.zr p.zi,.slice Ab p.body.length cb] Af Ac (fun _ => False) (L) q o true false false (.slice none 0 0) [] wz) rfl rfl ⟨_,(by have hz1:World.cell? Bl ⟨w.heap.size + 1,0,none⟩ = some _:=(AA K1.out.tb 0).trans rfl; have hz2:=AB K1.out.tb 0; first | (go_simp; done) | (go_simp; rfl)),TS.EY K1.out hB 0 _ rfl⟩ (fun BG hF => ?_)); (have K2:=Lib.hid hF); (clear hF); (have MS:BG.cell? ⟨g,9,none⟩ = some (.int .u32 L.expected):=(AA K2.out.at_.blk 9).trans rfl); (have hp0:BG.cell? ⟨w.heap.size,0,none⟩ = some (.int .i64 p.kind):=(AA K2.out.pb 0).trans rfl); (have Kt:BG.cell? ⟨w.heap.size,4,none⟩ = some (.int .u32 p.seq):=(AA K2.out.pb 4).trans rfl)))
 refine wp_goto ?_
 refine Jump.goto HC.out rfl ?_
 go_wp2_with fail
 go_quiet (fail)
 rename Nat => F9
 clear MS hp0 Kt
 have KU:BG.cell? ⟨g,8,none⟩ = some (.int .u32 L.base):=(AA K2.out.at_.blk 8).trans rfl
 have He:BG.cell? ⟨g,7,none⟩ = some (.int .i64 L.sent):=(AA K2.out.at_.blk 7).trans rfl
 exact pW
end Go.Proofs.Ytnkkgofpifhoeaa.Lk
end
