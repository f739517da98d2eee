/- What the laws of a pair are proved with: links and pairs in memory, what their methods do, what a pair keeps to (part 5). -/
import Derived.Test.YtnkkgofpifhoeaaPE04
set_option linter.unusedSimpArgs false
set_option linter.unusedVariables false
set_option maxRecDepth 100000
set_option maxHeartbeats 16000000
section
namespace Go.Proofs.Ytnkkgofpifhoeaa.Lk
open Go.RowKit Go.Proofs.Ytnkkgofpifhoeaa.Base Go.Proofs.Ytnkkgofpifhoeaa.Steps Go.Proofs.Ytnkkgofpifhoeaa.Pk Go.Proofs.Ytnkkgofpifhoeaa.yU Go.Proofs.YtnkkgofpifhoeaaW.PrintWords Go.Proofs.YtnkkgofpifhoeaaW.PrintLast
theorem Z7 {p:Prop} (h:p:=by
 refine wp_goto ?_
 refine Jump.goto HC.out rfl ?_
 go_wp2_with (first | ((with_reducible refine AO (N:=207) rfl ?_); (refine wpList_load_row rfl 56 (.tmp 6) rfl (w.heap.size + 1) (by rfl) 56 _ (0,0) _ (by first | exact K0.out.tb | exact (K0.out.drewN hB _).tb) Try.underlying56 rfl (by kernel_rfl) ?_)) | ((with_reducible refine gate_ (.store 56 (.tmp 6) (.tmp 207)) rfl ?_); (refine Ad rfl rfl 56 (.tmp 6) (.tmp 207) rfl (w.heap.size + 1) _ rfl rfl 56 _ (by first | exact K0.out.tb | exact (K0.out.drewN hB _).tb) (by kernel_rfl) rfl (by kernel_rfl) ?_); (intro Ce Hg Ey); (have hF:=TS.KQ (by first | exact K0.out | exact K0.out.drewN hB _ | exact K0.out.drew hB) hB Ey Hg (by first | exact K0.out.Fp | exact (K0.out.drewN hB _).Fp) (by first | exact K0.out.okb | exact (K0.out.drewN hB _).okb)); (have K1:=Lib.hid hF); (clear hF Hg Ey)))
 refine Jump.ret ?_
 refine bodyPost_ret ?_ rfl (K1.out.ends)
 exact Az Try.results34 _ _ rfl rfl (run_loadVar_row (P:=Try.prog) _ (w.heap.size + 1) 56 56 _ (0,0) _ K1.out.tb Try.underlying56 rfl (by kernel_rfl))):p:=h
theorem WN {w:World} {B g:Nat} {Ak Aj S:Nat → Prop} {L:Lk} {q o:Value} (h:At w B Ak Aj g L q o) (hok:L.Ok) (hS:∀ k,holds Ak Aj g k → S k) (hB:B ≤ w.heap.size) (AB:Int) (p:Bz) (Ab:Option Addr) (cb:Nat)
  (hb0:AB ≠ 0) (hbr:0 ≤ AB ∧ AB < 4294967296) (hpr:p.NT) (hck:Bg p.kind p.mine p.AB p.yours p.seq p.AV p.stamp p.echo p.zr p.zi p.body.length = 0)  (DT:L.phase = 0) :
  Calls Try.prog 34 #[.pointer (some ⟨g,0,none⟩),.int .u32 AB,.agg #[.int .i64 p.kind,.int .u32 p.mine,.int .u32 p.AB,.int .u32 p.yours,.int .u32 p.seq,.int .u32 p.AV,.int .u32 p.stamp,.int .u32 p.echo,.complex .f64 p.zr p.zi,.slice Ab p.body.length cb]] w fun e w' => EW w B S g (L) false false false [] e w':=by
 have IQ:=Lib.hid (show (((w.alloc (.cells #[.int .i64 p.kind,.int .u32 p.mine,.int .u32 p.AB,.int .u32 p.yours,.int .u32 p.seq,.int .u32 p.AV,.int .u32 p.stamp,.int .u32 p.echo,.complex .f64 p.zr p.zi,.slice Ab p.body.length cb] 27)).alloc (.cells #[.bool false,.bool false,.bool false,.slice none 0 0] 56))).heap[w.heap.size]? = some (.cells #[.int .i64 p.kind,.int .u32 p.mine,.int .u32 p.AB,.int .u32 p.yours,.int .u32 p.seq,.int .u32 p.AV,.int .u32 p.stamp,.int .u32 p.echo,.complex .f64 p.zr p.zi,.slice Ab p.body.length cb] 27 (0,0)) from (Below.heap_alloc _ _ _ (by simp)).trans (heap_alloc_new w _))
 have H:=Lib.hid h
 have OK:=Lib.hid hok
 have HS:=Lib.hid hS
 have Em:=Lib.hid hpr
 have IU:=Lib.hid hck
 have hbz:(AB == 0) = false:=by simp [hb0]
 have FH:=Lib.hid DT
 clear DT
 clear h hok hS hpr hck hb0
 go_enter Try.func34,Try.ntmps34
 go_wp2_with fail
 refine BF 3 (fun C HC => ?_)
 go_wp2_with (first | ((with_reducible refine AO (N:=17) rfl ?_); (refine wpList_load_row rfl 27 (.tmp 5) rfl w.heap.size (by rfl) 27 #[.int .i64 p.kind,.int .u32 p.mine,.int .u32 p.AB,.int .u32 p.yours,.int .u32 p.seq,.int .u32 p.AV,.int .u32 p.stamp,.int .u32 p.echo,.complex .f64 p.zr p.zi,.slice Ab p.body.length cb] (0,0) _ IQ.out Try.underlying27 rfl (by kernel_rfl) ?_)) | (go_at_call 20; (refine (check_any _ _ _ _ _ _ _ _ _ _ _ _ _ _ Em.out.zr Em.out.zi).mono ?_); (rintro e BX ⟨rfl,hb⟩); (rw [IU.out]); (have K0:=Lib.hid (TS.start (pc:=#[.int .i64 p.kind,.int .u32 p.mine,.int .u32 p.AB,.int .u32 p.yours,.int .u32 p.seq,.int .u32 p.AV,.int .u32 p.stamp,.int .u32 p.echo,.complex .f64 p.zr p.zi,.slice Ab p.body.length cb]) H.out HS.out hB (hb.mono (by simp)))); (clear hb); (have hl1:BX.cell? ⟨g,1,none⟩ = some (.int .i64 0):=(AA K0.out.at_.blk 1).trans (congrArg (fun x => some (Value.int .i64 x)) FH.out)); (have hp0:BX.cell? ⟨w.heap.size,0,none⟩ = some (.int .i64 p.kind):=(AA K0.out.pb 0).trans rfl); (have hp1:BX.cell? ⟨w.heap.size,1,none⟩ = some (.int .u32 p.mine):=(AA K0.out.pb 1).trans rfl)) | (go_at_call 76; (refine (Dy K0.out.at_ AB p.mine).mono ?_); (rintro e w1 ⟨rfl,rfl⟩); (skip)))
 exact Z7
theorem YE {w:World} {B g:Nat} {Ak Aj S:Nat → Prop} {L:Lk} {q o:Value} (h:At w B Ak Aj g L q o) (hok:L.Ok) (hS:∀ k,holds Ak Aj g k → S k) (hB:B ≤ w.heap.size) (AB:Int) (p:Bz) (Ab:Option Addr) (cb:Nat)
  (hb0:AB ≠ 0) (hbr:0 ≤ AB ∧ AB < 4294967296) (hpr:p.NT) (hck:Bg p.kind p.mine p.AB p.yours p.seq p.AV p.stamp p.echo p.zr p.zi p.body.length = 0)  (DT:L.phase ≠ 0) (hag:Bo L AB p.mine = -1) :
  Calls Try.prog 34 #[.pointer (some ⟨g,0,none⟩),.int .u32 AB,.agg #[.int .i64 p.kind,.int .u32 p.mine,.int .u32 p.AB,.int .u32 p.yours,.int .u32 p.seq,.int .u32 p.AV,.int .u32 p.stamp,.int .u32 p.echo,.complex .f64 p.zr p.zi,.slice Ab p.body.length cb]] w fun e w' => EW w B S g (L) false false false [] e w':=by
 have IQ:=Lib.hid (show (((w.alloc (.cells #[.int .i64 p.kind,.int .u32 p.mine,.int .u32 p.AB,.int .u32 p.yours,.int .u32 p.seq,.int .u32 p.AV,.int .u32 p.stamp,.int .u32 p.echo,.complex .f64 p.zr p.zi,.slice Ab p.body.length cb] 27)).alloc (.cells #[.bool false,.bool false,.bool false,.slice none 0 0] 56))).heap[w.heap.size]? = some (.cells #[.int .i64 p.kind,.int .u32 p.mine,.int .u32 p.AB,.int .u32 p.yours,.int .u32 p.seq,.int .u32 p.AV,.int .u32 p.stamp,.int .u32 p.echo,.complex .f64 p.zr p.zi,.slice Ab p.body.length cb] 27 (0,0)) from (Below.heap_alloc _ _ _ (by simp)).trans (heap_alloc_new w _))
 have H:=Lib.hid h
 have OK:=Lib.hid hok
 have HS:=Lib.hid hS
 have Em:=Lib.hid hpr
 have IU:=Lib.hid hck
 have hbz:(AB == 0) = false:=by simp [hb0]
 have Jz:=Lib.hid hag
 clear hag
 have hd1:(L.phase == 0) = false:=by simp [DT]
 clear DT
 clear h hok hS hpr hck hb0
 go_enter Try.func34,Try.ntmps34
 go_wp2_with fail
 refine BF 3 (fun C HC => ?_)
 go_wp2_with (first | ((with_reducible refine AO (N:=17) rfl ?_); (refine wpList_load_row rfl 27 (.tmp 5) rfl w.heap.size (by rfl) 27 #[.int .i64 p.kind,.int .u32 p.mine,.int .u32 p.AB,.int .u32 p.yours,.int .u32 p.seq,.int .u32 p.AV,.int .u32 p.stamp,.int .u32 p.echo,.complex .f64 p.zr p.zi,.slice Ab p.body.length cb] (0,0) _ IQ.out Try.underlying27 rfl (by kernel_rfl) ?_)) | (go_at_call 20; (refine (check_any _ _ _ _ _ _ _ _ _ _ _ _ _ _ Em.out.zr Em.out.zi).mono ?_); (rintro e BX ⟨rfl,hb⟩); (rw [IU.out]); (have K0:=Lib.hid (TS.start (pc:=#[.int .i64 p.kind,.int .u32 p.mine,.int .u32 p.AB,.int .u32 p.yours,.int .u32 p.seq,.int .u32 p.AV,.int .u32 p.stamp,.int .u32 p.echo,.complex .f64 p.zr p.zi,.slice Ab p.body.length cb]) H.out HS.out hB (hb.mono (by simp)))); (clear hb); (have hl1:BX.cell? ⟨g,1,none⟩ = some (.int .i64 L.phase):=(AA K0.out.at_.blk 1).trans rfl); (have hp0:BX.cell? ⟨w.heap.size,0,none⟩ = some (.int .i64 p.kind):=(AA K0.out.pb 0).trans rfl); (have hp1:BX.cell? ⟨w.heap.size,1,none⟩ = some (.int .u32 p.mine):=(AA K0.out.pb 1).trans rfl)) | (go_at_call 76; (refine (Dy K0.out.at_ AB p.mine).mono ?_); (rintro e w1 ⟨rfl,rfl⟩); (rw [Jz.out])))
 exact Z7
theorem Z20 {p:Prop} (h:p:=by
 go_wp2_with (first | ((with_reducible refine AO (N:=207) rfl ?_); (refine wpList_load_row rfl 56 (.tmp 6) rfl (w.heap.size + 1) (by rfl) 56 _ (0,0) _ (by first | exact K9.out.tb | exact (K9.out.drewN hB _).tb) Try.underlying56 rfl (by kernel_rfl) ?_)) | ((with_reducible refine gate_ (.store 56 (.tmp 6) (.tmp 207)) rfl ?_); (refine Ad rfl rfl 56 (.tmp 6) (.tmp 207) rfl (w.heap.size + 1) _ rfl rfl 56 _ (by first | exact K9.out.tb | exact (K9.out.drewN hB _).tb) (by kernel_rfl) rfl (by kernel_rfl) ?_); (intro VO Hg Ey); (have hF:=TS.KQ (by first | exact K9.out | exact K9.out.drewN hB _ | exact K9.out.drew hB) hB Ey Hg (by first | exact K9.out.Fp | exact (K9.out.drewN hB _).Fp) (by first | exact K9.out.okb | exact (K9.out.drewN hB _).okb)); (have K10:=Lib.hid hF); (clear hF Hg Ey)))
 refine Jump.ret ?_
 refine bodyPost_ret ?_ rfl (K10.out.ends)
 exact Az Try.results34 _ _ rfl rfl (run_loadVar_row (P:=Try.prog) _ (w.heap.size + 1) 56 56 _ (0,0) _ K10.out.tb Try.underlying56 rfl (by kernel_rfl))):p:=h
theorem TV {w:World} {B g:Nat} {Ak Aj S:Nat → Prop} {L:Lk} {q o:Value} (h:At w B Ak Aj g L q o) (hok:L.Ok) (hS:∀ k,holds Ak Aj g k → S k) (hB:B ≤ w.heap.size) (AB:Int) (p:Bz) (Ab:Option Addr) (cb:Nat)
  (hb0:AB ≠ 0) (hbr:0 ≤ AB ∧ AB < 4294967296) (hpr:p.NT) (hck:Bg p.kind p.mine p.AB p.yours p.seq p.AV p.stamp p.echo p.zr p.zi p.body.length = 0)  (DT:L.phase = 1) (hag:0 ≤ Bo L AB p.mine) (hkd:p.kind = 1) (hmn:BI L p = true) :
  Calls Try.prog 34 #[.pointer (some ⟨g,0,none⟩),.int .u32 AB,.agg #[.int .i64 p.kind,.int .u32 p.mine,.int .u32 p.AB,.int .u32 p.yours,.int .u32 p.seq,.int .u32 p.AV,.int .u32 p.stamp,.int .u32 p.echo,.complex .f64 p.zr p.zi,.slice Ab p.body.length cb]] w fun e w' => EW w B S g (emit_ ({ L with phase:=2,AB:=AB,yours:=p.mine,known:=true }) (Bc ({ L with phase:=2,AB:=AB,yours:=p.mine,known:=true }))) true true false [] e w':=by
 have IQ:=Lib.hid (show (((w.alloc (.cells #[.int .i64 p.kind,.int .u32 p.mine,.int .u32 p.AB,.int .u32 p.yours,.int .u32 p.seq,.int .u32 p.AV,.int .u32 p.stamp,.int .u32 p.echo,.complex .f64 p.zr p.zi,.slice Ab p.body.length cb] 27)).alloc (.cells #[.bool false,.bool false,.bool false,.slice none 0 0] 56))).heap[w.heap.size]? = some (.cells #[.int .i64 p.kind,.int .u32 p.mine,.int .u32 p.AB,.int .u32 p.yours,.int .u32 p.seq,.int .u32 p.AV,.int .u32 p.stamp,.int .u32 p.echo,.complex .f64 p.zr p.zi,.slice Ab p.body.length cb] 27 (0,0)) from (Below.heap_alloc _ _ _ (by simp)).trans (heap_alloc_new w _))
 have H:=Lib.hid h
 have OK:=Lib.hid hok
 have HS:=Lib.hid hS
 have Em:=Lib.hid hpr
 have IU:=Lib.hid hck
 have hbz:(AB == 0) = false:=by simp [hb0]
 have FH:=Lib.hid DT
 clear DT
 have GN:=Lib.hid hkd
 clear hkd
 have hd2:decide (Bo L AB p.mine < 0) = false:=by simp; omega
 clear hag
 have NU:=Lib.hid hmn
 clear hmn
 have qX:=Lib.hid (MO OK.out hbr Em.out.mine true)
 have HBR:=Lib.hid hbr
 clear hbr
 clear h hok hS hpr hck hb0
 go_enter Try.func34,Try.ntmps34
 go_wp2_with fail
 refine BF 3 (fun C HC => ?_)
 go_wp2_with (first | ((with_reducible refine AO (N:=17) rfl ?_); (refine wpList_load_row rfl 27 (.tmp 5) rfl w.heap.size (by rfl) 27 #[.int .i64 p.kind,.int .u32 p.mine,.int .u32 p.AB,.int .u32 p.yours,.int .u32 p.seq,.int .u32 p.AV,.int .u32 p.stamp,.int .u32 p.echo,.complex .f64 p.zr p.zi,.slice Ab p.body.length cb] (0,0) _ IQ.out Try.underlying27 rfl (by kernel_rfl) ?_)) | (go_at_call 20; (refine (check_any _ _ _ _ _ _ _ _ _ _ _ _ _ _ Em.out.zr Em.out.zi).mono ?_); (rintro e BX ⟨rfl,hb⟩); (rw [IU.out]); (have K0:=Lib.hid (TS.start (pc:=#[.int .i64 p.kind,.int .u32 p.mine,.int .u32 p.AB,.int .u32 p.yours,.int .u32 p.seq,.int .u32 p.AV,.int .u32 p.stamp,.int .u32 p.echo,.complex .f64 p.zr p.zi,.slice Ab p.body.length cb]) H.out HS.out hB (hb.mono (by simp)))); (clear hb); (have hl1:BX.cell? ⟨g,1,none⟩ = some (.int .i64 1):=(AA K0.out.at_.blk 1).trans (congrArg (fun x => some (Value.int .i64 x)) FH.out)); (have hp0:BX.cell? ⟨w.heap.size,0,none⟩ = some (.int .i64 1):=(AA K0.out.pb 0).trans (congrArg (fun x => some (Value.int .i64 x)) GN.out)); (have hp1:BX.cell? ⟨w.heap.size,1,none⟩ = some (.int .u32 p.mine):=(AA K0.out.pb 1).trans rfl)) | (go_at_call 76; (refine (Dy K0.out.at_ AB p.mine).mono ?_); (rintro e w1 ⟨rfl,rfl⟩); (skip)) | ((with_reducible refine gate_ (.store 4 (.tmp 40) (.const (.bool true))) rfl ?_); (refine AU (fun wz => TS w B S g #[.int .i64 p.kind,.int .u32 p.mine,.int .u32 p.AB,.int .u32 p.yours,.int .u32 p.seq,.int .u32 p.AV,.int .u32 p.stamp,.int .u32 p.echo,.complex .f64 p.zr p.zi,.slice Ab p.body.length cb] Ak Aj (fun _ => False) (L) q o true false false (.slice none 0 0) [] wz) rfl rfl ⟨_,(by have hz1:World.cell? BX ⟨w.heap.size + 1,0,none⟩ = some _:=(AA K0.out.tb 0).trans rfl; have hz2:=AL K0.out.tb 0; first | (go_simp; done) | (go_simp; rfl)),TS.FM K0.out hB 0 _ rfl⟩ (fun Ce hF => ?_)); (have K1:=Lib.hid hF); (clear hF); (clear hl1 hp0 hp1); (have hl1:Ce.cell? ⟨g,1,none⟩ = some (.int .i64 1):=(AA K1.out.at_.blk 1).trans (congrArg (fun x => some (Value.int .i64 x)) FH.out)); (have hp0:Ce.cell? ⟨w.heap.size,0,none⟩ = some (.int .i64 1):=(AA K1.out.pb 0).trans (congrArg (fun x => some (Value.int .i64 x)) GN.out))))
 refine wp_goto ?_
 refine Jump.goto HC.out rfl ?_
 go_wp2_with fail
 have hSS:Ce.drew.heap[w.heap.size]? = some (.cells #[.int .i64 p.kind,.int .u32 p.mine,.int .u32 p.AB,.int .u32 p.yours,.int .u32 p.seq,.int .u32 p.AV,.int .u32 p.stamp,.int .u32 p.echo,.complex .f64 p.zr p.zi,.slice Ab p.body.length cb] 27 (0,0)):=K1.out.pb
 have hts:=K1.out.drew hB
 clear hl1 hp0
 refine BA (n:=15) (S:=fun w' => w'.heap[w.heap.size]? = some (.cells #[.int .i64 p.kind,.int .u32 p.mine,.int .u32 p.AB,.int .u32 p.yours,.int .u32 p.seq,.int .u32 p.AV,.int .u32 p.stamp,.int .u32 p.echo,.complex .f64 p.zr p.zi,.slice Ab p.body.length cb] 27 (0,0))) (ds:=[]) Vp (by kernel_rfl) rfl rfl (hSS) (fun hHeld => ?_)
 generalize Ce.drew = jM at hts hHeld ⊢
 have jO:=Lib.hid hts
 clear hts hSS
 refine pu 0 63 Vq ?_
 refine pu 1 64 Vr ?_
 refine pu 2 65 Vs ?_
 refine pu 3 66 Vt ?_
 refine pu 4 67 Vu ?_
 refine tk 5 68 Vw hHeld ?_ (hf:=by intro w' s0; have hp1:w'.cell? ⟨w.heap.size,1,none⟩ = some (.int .u32 p.mine):=(AA s0 1).trans rfl; clear s0; go_simp; with_reducible rfl)
 refine pu 6 69 Vx ?_
 refine pu 7 70 Vy ?_
 refine on 8 none Vz fun K hK => ?_
 have hz1:jM.cell? ⟨g,3,none⟩ = some _:=(AA jO.out.at_.blk 3).trans rfl
 have hz2:=AL jO.out.at_.blk 3
 refine CG (fun wz => TS w B S g #[.int .i64 p.kind,.int .u32 p.mine,.int .u32 p.AB,.int .u32 p.yours,.int .u32 p.seq,.int .u32 p.AV,.int .u32 p.stamp,.int .u32 p.echo,.complex .f64 p.zr p.zi,.slice Ab p.body.length cb] Ak Aj (fun _ => False) ({ L with AB:=AB }) q o true false false (.slice none 0 0) [] wz) (by rfl) rfl ⟨_,by first | (go_simp; done) | (go_simp; rfl),TS.ET jO.out hB 3 _ rfl rfl rfl⟩ (fun DK hF => ?_)
 have K3:=Lib.hid hF
 clear hF hz1 hz2 hHeld
 refine hK.out _ _ K3.out.pb (fun hHeld => ?_)
 clear hK K
 refine pu 9 71 gZ ?_
 refine pu 10 72 gu ?_
 refine on 11 none gy fun K hK => ?_
 have hz1:DK.cell? ⟨g,4,none⟩ = some _:=(AA K3.out.at_.blk 4).trans rfl
 have hz2:=AL K3.out.at_.blk 4
 refine CG (fun wz => TS w B S g #[.int .i64 p.kind,.int .u32 p.mine,.int .u32 p.AB,.int .u32 p.yours,.int .u32 p.seq,.int .u32 p.AV,.int .u32 p.stamp,.int .u32 p.echo,.complex .f64 p.zr p.zi,.slice Ab p.body.length cb] Ak Aj (fun _ => False) ({ L with AB:=AB,yours:=p.mine }) q o true false false (.slice none 0 0) [] wz) (by rfl) rfl ⟨_,by first | (go_simp; done) | (go_simp; rfl),TS.ET K3.out hB 4 _ rfl rfl rfl⟩ (fun EL hF => ?_)
 have K4:=Lib.hid hF
 clear hF hz1 hz2 hHeld
 refine hK.out _ _ K4.out.pb (fun hHeld => ?_)
 clear hK K
 refine pu 12 73 Ql ?_
 refine pu 13 74 XW ?_
 refine on 14 none XX fun K hK => ?_
 have hz1:EL.cell? ⟨g,5,none⟩ = some _:=(AA K4.out.at_.blk 5).trans rfl
 have hz2:=AL K4.out.at_.blk 5
 refine CG (fun wz => TS w B S g #[.int .i64 p.kind,.int .u32 p.mine,.int .u32 p.AB,.int .u32 p.yours,.int .u32 p.seq,.int .u32 p.AV,.int .u32 p.stamp,.int .u32 p.echo,.complex .f64 p.zr p.zi,.slice Ab p.body.length cb] Ak Aj (fun _ => False) ({ L with AB:=AB,yours:=p.mine,known:=true }) q o true false false (.slice none 0 0) [] wz) (by rfl) rfl ⟨_,by first | (go_simp; done) | (go_simp; rfl),TS.ET K4.out hB 5 _ rfl rfl rfl⟩ (fun Ea hF => ?_)
 have K5:=Lib.hid hF
 clear hF hz1 hz2 hHeld
 refine hK.out _ _ K5.out.pb (fun hHeld => ?_)
 clear hK K
 refine BG (by kernel_rfl) ?_
 clear hHeld
 go_wp2_with (first | ((with_reducible refine AO (N:=76) rfl ?_); (refine wpList_load_row rfl 27 (.tmp 5) rfl w.heap.size (by rfl) 27 _ (0,0) _ (by first | exact K5.out.pb | exact (K5.out.drewN hB _).pb) Try.underlying27 rfl (by kernel_rfl) ?_)) | (go_at_call 77; (refine (EE K5.out.at_ p (.slice Ab p.body.length cb)).mono ?_); (rintro e Jv ⟨rfl,hb⟩); (have hme:BI ({ L with AB:=AB,yours:=p.mine,known:=true }) p = true:=NU.out); (rw [hme]); (clear hme); (have K6:=Lib.hid (K5.out.sub hB hb)); (clear hb)) | ((with_reducible refine gate_ (.store 3 (.tmp 80) (.const (.int .i64 2))) rfl ?_); (refine AU (fun wz => TS w B S g #[.int .i64 p.kind,.int .u32 p.mine,.int .u32 p.AB,.int .u32 p.yours,.int .u32 p.seq,.int .u32 p.AV,.int .u32 p.stamp,.int .u32 p.echo,.complex .f64 p.zr p.zi,.slice Ab p.body.length cb] Ak Aj (fun _ => False) ({ L with phase:=2,AB:=AB,yours:=p.mine,known:=true }) q o true false false (.slice none 0 0) [] wz) rfl rfl ⟨_,(by have hz1:World.cell? Jv ⟨g,1,none⟩ = some _:=(AA K6.out.at_.blk 1).trans rfl; have hz2:=AL K6.out.at_.blk 1; first | (go_simp; done) | (go_simp; rfl)),TS.ET K6.out hB 1 _ rfl rfl rfl⟩ (fun Jb hF => ?_)); (have K7:=Lib.hid hF); (clear hF)) | ((with_reducible refine gate_ (.store 4 (.tmp 81) (.const (.bool true))) rfl ?_); (refine AU (fun wz => TS w B S g #[.int .i64 p.kind,.int .u32 p.mine,.int .u32 p.AB,.int .u32 p.yours,.int .u32 p.seq,.int .u32 p.AV,.int .u32 p.stamp,.int .u32 p.echo,.complex .f64 p.zr p.zi,.slice Ab p.body.length cb] Ak Aj (fun _ => False) ({ L with phase:=2,AB:=AB,yours:=p.mine,known:=true }) q o true true false (.slice none 0 0) [] wz) rfl rfl ⟨_,(by have hz1:World.cell? Jb ⟨w.heap.size + 1,1,none⟩ = some _:=(AA K7.out.tb 1).trans rfl; have hz2:=AL K7.out.tb 1; first | (go_simp; done) | (go_simp; rfl)),TS.FM K7.out hB 1 _ rfl⟩ (fun Qv hF => ?_)); (have K8:=Lib.hid hF); (clear hF)) | (go_at_call 73; (refine (Hu K8.out.at_ (Qx qX.out (by decide)) (Nat.le_trans hB K8.out.kept.1)).mono ?_); (rintro e ax ⟨rfl,hE⟩); (obtain ⟨jP,yV,hF⟩:=TS.I8 K8.out hB hE); (clear hE); (have K9:=Lib.hid hF); (clear hF)))
 refine wp_goto ?_
 refine Jump.goto HC.out rfl ?_
 exact Z20
theorem Z21 {p:Prop} (h:p:=by
 go_wp2_with (first | ((with_reducible refine AO (N:=207) rfl ?_); (refine wpList_load_row rfl 56 (.tmp 6) rfl (w.heap.size + 1) (by rfl) 56 _ (0,0) _ (by first | exact K7.out.tb | exact (K7.out.drewN hB _).tb) Try.underlying56 rfl (by kernel_rfl) ?_)) | ((with_reducible refine gate_ (.store 56 (.tmp 6) (.tmp 207)) rfl ?_); (refine Ad rfl rfl 56 (.tmp 6) (.tmp 207) rfl (w.heap.size + 1) _ rfl rfl 56 _ (by first | exact K7.out.tb | exact (K7.out.drewN hB _).tb) (by kernel_rfl) rfl (by kernel_rfl) ?_); (intro Qv Hg Ey); (have hF:=TS.KQ (by first | exact K7.out | exact K7.out.drewN hB _ | exact K7.out.drew hB) hB Ey Hg (by first | exact K7.out.Fp | exact (K7.out.drewN hB _).Fp) (by first | exact K7.out.okb | exact (K7.out.drewN hB _).okb)); (have K8:=Lib.hid hF); (clear hF Hg Ey)))
 refine Jump.ret ?_
 refine bodyPost_ret ?_ rfl (K8.out.ends)
 exact Az Try.results34 _ _ rfl rfl (run_loadVar_row (P:=Try.prog) _ (w.heap.size + 1) 56 56 _ (0,0) _ K8.out.tb Try.underlying56 rfl (by kernel_rfl))):p:=h
theorem TW {w:World} {B g:Nat} {Ak Aj S:Nat → Prop} {L:Lk} {q o:Value} (h:At w B Ak Aj g L q o) (hok:L.Ok) (hS:∀ k,holds Ak Aj g k → S k) (hB:B ≤ w.heap.size) (AB:Int) (p:Bz) (Ab:Option Addr) (cb:Nat)
  (hb0:AB ≠ 0) (hbr:0 ≤ AB ∧ AB < 4294967296) (hpr:p.NT) (hck:Bg p.kind p.mine p.AB p.yours p.seq p.AV p.stamp p.echo p.zr p.zi p.body.length = 0)  (DT:L.phase = 1) (hag:0 ≤ Bo L AB p.mine) (hkd:p.kind = 1) (hmn:BI L p = false) :
  Calls Try.prog 34 #[.pointer (some ⟨g,0,none⟩),.int .u32 AB,.agg #[.int .i64 p.kind,.int .u32 p.mine,.int .u32 p.AB,.int .u32 p.yours,.int .u32 p.seq,.int .u32 p.AV,.int .u32 p.stamp,.int .u32 p.echo,.complex .f64 p.zr p.zi,.slice Ab p.body.length cb]] w fun e w' => EW w B S g (emit_ ({ L with AB:=AB,yours:=p.mine,known:=true }) (Bc ({ L with AB:=AB,yours:=p.mine,known:=true }))) true false false [] e w':=by
 have IQ:=Lib.hid (show (((w.alloc (.cells #[.int .i64 p.kind,.int .u32 p.mine,.int .u32 p.AB,.int .u32 p.yours,.int .u32 p.seq,.int .u32 p.AV,.int .u32 p.stamp,.int .u32 p.echo,.complex .f64 p.zr p.zi,.slice Ab p.body.length cb] 27)).alloc (.cells #[.bool false,.bool false,.bool false,.slice none 0 0] 56))).heap[w.heap.size]? = some (.cells #[.int .i64 p.kind,.int .u32 p.mine,.int .u32 p.AB,.int .u32 p.yours,.int .u32 p.seq,.int .u32 p.AV,.int .u32 p.stamp,.int .u32 p.echo,.complex .f64 p.zr p.zi,.slice Ab p.body.length cb] 27 (0,0)) from (Below.heap_alloc _ _ _ (by simp)).trans (heap_alloc_new w _))
 have H:=Lib.hid h
 have OK:=Lib.hid hok
 have HS:=Lib.hid hS
 have Em:=Lib.hid hpr
 have IU:=Lib.hid hck
 have hbz:(AB == 0) = false:=by simp [hb0]
 have FH:=Lib.hid DT
 clear DT
 have GN:=Lib.hid hkd
 clear hkd
 have hd2:decide (Bo L AB p.mine < 0) = false:=by simp; omega
 clear hag
 have NU:=Lib.hid hmn
 clear hmn
 have qX:=Lib.hid (MO OK.out hbr Em.out.mine true)
 have HBR:=Lib.hid hbr
 clear hbr
 clear h hok hS hpr hck hb0
 go_enter Try.func34,Try.ntmps34
 go_wp2_with fail
 refine BF 3 (fun C HC => ?_)
 go_wp2_with (first | ((with_reducible refine AO (N:=17) rfl ?_); (refine wpList_load_row rfl 27 (.tmp 5) rfl w.heap.size (by rfl) 27 #[.int .i64 p.kind,.int .u32 p.mine,.int .u32 p.AB,.int .u32 p.yours,.int .u32 p.seq,.int .u32 p.AV,.int .u32 p.stamp,.int .u32 p.echo,.complex .f64 p.zr p.zi,.slice Ab p.body.length cb] (0,0) _ IQ.out Try.underlying27 rfl (by kernel_rfl) ?_)) | (go_at_call 20; (refine (check_any _ _ _ _ _ _ _ _ _ _ _ _ _ _ Em.out.zr Em.out.zi).mono ?_); (rintro e BX ⟨rfl,hb⟩); (rw [IU.out]); (have K0:=Lib.hid (TS.start (pc:=#[.int .i64 p.kind,.int .u32 p.mine,.int .u32 p.AB,.int .u32 p.yours,.int .u32 p.seq,.int .u32 p.AV,.int .u32 p.stamp,.int .u32 p.echo,.complex .f64 p.zr p.zi,.slice Ab p.body.length cb]) H.out HS.out hB (hb.mono (by simp)))); (clear hb); (have hl1:BX.cell? ⟨g,1,none⟩ = some (.int .i64 1):=(AA K0.out.at_.blk 1).trans (congrArg (fun x => some (Value.int .i64 x)) FH.out)); (have hp0:BX.cell? ⟨w.heap.size,0,none⟩ = some (.int .i64 1):=(AA K0.out.pb 0).trans (congrArg (fun x => some (Value.int .i64 x)) GN.out)); (have hp1:BX.cell? ⟨w.heap.size,1,none⟩ = some (.int .u32 p.mine):=(AA K0.out.pb 1).trans rfl)) | (go_at_call 76; (refine (Dy K0.out.at_ AB p.mine).mono ?_); (rintro e w1 ⟨rfl,rfl⟩); (skip)) | ((with_reducible refine gate_ (.store 4 (.tmp 40) (.const (.bool true))) rfl ?_); (refine AU (fun wz => TS w B S g #[.int .i64 p.kind,.int .u32 p.mine,.int .u32 p.AB,.int .u32 p.yours,.int .u32 p.seq,.int .u32 p.AV,.int .u32 p.stamp,.int .u32 p.echo,.complex .f64 p.zr p.zi,.slice Ab p.body.length cb] Ak Aj (fun _ => False) (L) q o true false false (.slice none 0 0) [] wz) rfl rfl ⟨_,(by have hz1:World.cell? BX ⟨w.heap.size + 1,0,none⟩ = some _:=(AA K0.out.tb 0).trans rfl; have hz2:=AL K0.out.tb 0; first | (go_simp; done) | (go_simp; rfl)),TS.FM K0.out hB 0 _ rfl⟩ (fun Ce hF => ?_)); (have K1:=Lib.hid hF); (clear hF); (clear hl1 hp0 hp1); (have hl1:Ce.cell? ⟨g,1,none⟩ = some (.int .i64 1):=(AA K1.out.at_.blk 1).trans (congrArg (fun x => some (Value.int .i64 x)) FH.out)); (have hp0:Ce.cell? ⟨w.heap.size,0,none⟩ = some (.int .i64 1):=(AA K1.out.pb 0).trans (congrArg (fun x => some (Value.int .i64 x)) GN.out))))
 refine wp_goto ?_
 refine Jump.goto HC.out rfl ?_
 go_wp2_with fail
 have hSS:Ce.drew.heap[w.heap.size]? = some (.cells #[.int .i64 p.kind,.int .u32 p.mine,.int .u32 p.AB,.int .u32 p.yours,.int .u32 p.seq,.int .u32 p.AV,.int .u32 p.stamp,.int .u32 p.echo,.complex .f64 p.zr p.zi,.slice Ab p.body.length cb] 27 (0,0)):=K1.out.pb
 have hts:=K1.out.drew hB
 clear hl1 hp0
 refine BA (n:=15) (S:=fun w' => w'.heap[w.heap.size]? = some (.cells #[.int .i64 p.kind,.int .u32 p.mine,.int .u32 p.AB,.int .u32 p.yours,.int .u32 p.seq,.int .u32 p.AV,.int .u32 p.stamp,.int .u32 p.echo,.complex .f64 p.zr p.zi,.slice Ab p.body.length cb] 27 (0,0))) (ds:=[]) Vp (by kernel_rfl) rfl rfl (hSS) (fun hHeld => ?_)
 generalize Ce.drew = jM at hts hHeld ⊢
 have jO:=Lib.hid hts
 clear hts hSS
 refine pu 0 63 Vq ?_
 refine pu 1 64 Vr ?_
 refine pu 2 65 Vs ?_
 refine pu 3 66 Vt ?_
 refine pu 4 67 Vu ?_
 refine tk 5 68 Vw hHeld ?_ (hf:=by intro w' s0; have hp1:w'.cell? ⟨w.heap.size,1,none⟩ = some (.int .u32 p.mine):=(AA s0 1).trans rfl; clear s0; go_simp; with_reducible rfl)
 refine pu 6 69 Vx ?_
 refine pu 7 70 Vy ?_
 refine on 8 none Vz fun K hK => ?_
 have hz1:jM.cell? ⟨g,3,none⟩ = some _:=(AA jO.out.at_.blk 3).trans rfl
 have hz2:=AL jO.out.at_.blk 3
 refine CG (fun wz => TS w B S g #[.int .i64 p.kind,.int .u32 p.mine,.int .u32 p.AB,.int .u32 p.yours,.int .u32 p.seq,.int .u32 p.AV,.int .u32 p.stamp,.int .u32 p.echo,.complex .f64 p.zr p.zi,.slice Ab p.body.length cb] Ak Aj (fun _ => False) ({ L with AB:=AB }) q o true false false (.slice none 0 0) [] wz) (by rfl) rfl ⟨_,by first | (go_simp; done) | (go_simp; rfl),TS.ET jO.out hB 3 _ rfl rfl rfl⟩ (fun DK hF => ?_)
 have K3:=Lib.hid hF
 clear hF hz1 hz2 hHeld
 refine hK.out _ _ K3.out.pb (fun hHeld => ?_)
 clear hK K
 refine pu 9 71 gZ ?_
 refine pu 10 72 gu ?_
 refine on 11 none gy fun K hK => ?_
 have hz1:DK.cell? ⟨g,4,none⟩ = some _:=(AA K3.out.at_.blk 4).trans rfl
 have hz2:=AL K3.out.at_.blk 4
 refine CG (fun wz => TS w B S g #[.int .i64 p.kind,.int .u32 p.mine,.int .u32 p.AB,.int .u32 p.yours,.int .u32 p.seq,.int .u32 p.AV,.int .u32 p.stamp,.int .u32 p.echo,.complex .f64 p.zr p.zi,.slice Ab p.body.length cb] Ak Aj (fun _ => False) ({ L with AB:=AB,yours:=p.mine }) q o true false false (.slice none 0 0) [] wz) (by rfl) rfl ⟨_,by first | (go_simp; done) | (go_simp; rfl),TS.ET K3.out hB 4 _ rfl rfl rfl⟩ (fun EL hF => ?_)
 have K4:=Lib.hid hF
 clear hF hz1 hz2 hHeld
 refine hK.out _ _ K4.out.pb (fun hHeld => ?_)
 clear hK K
 refine pu 12 73 Ql ?_
 refine pu 13 74 XW ?_
 refine on 14 none XX fun K hK => ?_
 have hz1:EL.cell? ⟨g,5,none⟩ = some _:=(AA K4.out.at_.blk 5).trans rfl
 have hz2:=AL K4.out.at_.blk 5
 refine CG (fun wz => TS w B S g #[.int .i64 p.kind,.int .u32 p.mine,.int .u32 p.AB,.int .u32 p.yours,.int .u32 p.seq,.int .u32 p.AV,.int .u32 p.stamp,.int .u32 p.echo,.complex .f64 p.zr p.zi,.slice Ab p.body.length cb] Ak Aj (fun _ => False) ({ L with AB:=AB,yours:=p.mine,known:=true }) q o true false false (.slice none 0 0) [] wz) (by rfl) rfl ⟨_,by first | (go_simp; done) | (go_simp; rfl),TS.ET K4.out hB 5 _ rfl rfl rfl⟩ (fun Ea hF => ?_)
 have K5:=Lib.hid hF
 clear hF hz1 hz2 hHeld
 refine hK.out _ _ K5.out.pb (fun hHeld => ?_)
 clear hK K
 refine BG (by kernel_rfl) ?_
 clear hHeld
 go_wp2_with (first | ((with_reducible refine AO (N:=76) rfl ?_); (refine wpList_load_row rfl 27 (.tmp 5) rfl w.heap.size (by rfl) 27 _ (0,0) _ (by first | exact K5.out.pb | exact (K5.out.drewN hB _).pb) Try.underlying27 rfl (by kernel_rfl) ?_)) | (go_at_call 77; (refine (EE K5.out.at_ p (.slice Ab p.body.length cb)).mono ?_); (rintro e Jv ⟨rfl,hb⟩); (have hme:BI ({ L with AB:=AB,yours:=p.mine,known:=true }) p = false:=NU.out); (rw [hme]); (clear hme); (have K6:=Lib.hid (K5.out.sub hB hb)); (clear hb)) | (go_at_call 73; (refine (Hu K6.out.at_ (qX.out) (Nat.le_trans hB K6.out.kept.1)).mono ?_); (rintro e Jb ⟨rfl,hE⟩); (obtain ⟨TY,YF,hF⟩:=TS.I8 K6.out hB hE); (clear hE); (have K7:=Lib.hid hF); (clear hF)))
 refine wp_goto ?_
 refine Jump.goto HC.out rfl ?_
 exact Z21
theorem Z12 {p:Prop} (h:p:=by
 go_wp2_with (first | ((with_reducible refine AO (N:=207) rfl ?_); (refine wpList_load_row rfl 56 (.tmp 6) rfl (w.heap.size + 1) (by rfl) 56 _ (0,0) _ (by first | exact K2.out.tb | exact (K2.out.drewN hB _).tb) Try.underlying56 rfl (by kernel_rfl) ?_)) | ((with_reducible refine gate_ (.store 56 (.tmp 6) (.tmp 207)) rfl ?_); (refine Ad rfl rfl 56 (.tmp 6) (.tmp 207) rfl (w.heap.size + 1) _ rfl rfl 56 _ (by first | exact K2.out.tb | exact (K2.out.drewN hB _).tb) (by kernel_rfl) rfl (by kernel_rfl) ?_); (intro DK Hg Ey); (have hF:=TS.KQ (by first | exact K2.out | exact K2.out.drewN hB _ | exact K2.out.drew hB) hB Ey Hg (by first | exact K2.out.Fp | exact (K2.out.drewN hB _).Fp) (by first | exact K2.out.okb | exact (K2.out.drewN hB _).okb)); (have K3:=Lib.hid hF); (clear hF Hg Ey)))
 refine Jump.ret ?_
 refine bodyPost_ret ?_ rfl (K3.out.ends)
 exact Az Try.results34 _ _ rfl rfl (run_loadVar_row (P:=Try.prog) _ (w.heap.size + 1) 56 56 _ (0,0) _ K3.out.tb Try.underlying56 rfl (by kernel_rfl))):p:=h
theorem Qy {w:World} {B g:Nat} {Ak Aj S:Nat → Prop} {L:Lk} {q o:Value} (h:At w B Ak Aj g L q o) (hok:L.Ok) (hS:∀ k,holds Ak Aj g k → S k) (hB:B ≤ w.heap.size) (AB:Int) (p:Bz) (Ab:Option Addr) (cb:Nat)
  (hb0:AB ≠ 0) (hbr:0 ≤ AB ∧ AB < 4294967296) (hpr:p.NT) (hck:Bg p.kind p.mine p.AB p.yours p.seq p.AV p.stamp p.echo p.zr p.zi p.body.length = 0)  (DT:L.phase = 2) (hag:Bo L AB p.mine = 0) (hkd:p.kind = 1) (Jc:p.seq = 0) :
  Calls Try.prog 34 #[.pointer (some ⟨g,0,none⟩),.int .u32 AB,.agg #[.int .i64 p.kind,.int .u32 p.mine,.int .u32 p.AB,.int .u32 p.yours,.int .u32 p.seq,.int .u32 p.AV,.int .u32 p.stamp,.int .u32 p.echo,.complex .f64 p.zr p.zi,.slice Ab p.body.length cb]] w fun e w' => EW w B S g (emit_ L (Bc L)) true false false [] e w':=by
 have IQ:=Lib.hid (show (((w.alloc (.cells #[.int .i64 p.kind,.int .u32 p.mine,.int .u32 p.AB,.int .u32 p.yours,.int .u32 p.seq,.int .u32 p.AV,.int .u32 p.stamp,.int .u32 p.echo,.complex .f64 p.zr p.zi,.slice Ab p.body.length cb] 27)).alloc (.cells #[.bool false,.bool false,.bool false,.slice none 0 0] 56))).heap[w.heap.size]? = some (.cells #[.int .i64 p.kind,.int .u32 p.mine,.int .u32 p.AB,.int .u32 p.yours,.int .u32 p.seq,.int .u32 p.AV,.int .u32 p.stamp,.int .u32 p.echo,.complex .f64 p.zr p.zi,.slice Ab p.body.length cb] 27 (0,0)) from (Below.heap_alloc _ _ _ (by simp)).trans (heap_alloc_new w _))
 have H:=Lib.hid h
 have OK:=Lib.hid hok
 have HS:=Lib.hid hS
 have Em:=Lib.hid hpr
 have IU:=Lib.hid hck
 have hbz:(AB == 0) = false:=by simp [hb0]
 have FH:=Lib.hid DT
 clear DT
 have Jz:=Lib.hid hag
 clear hag
 have GN:=Lib.hid hkd
 clear hkd
 have hd3:(p.seq == 0) = true:=by simp [Jc]
 clear Jc hbr
 clear h hok hS hpr hck hb0
 go_enter Try.func34,Try.ntmps34
 go_wp2_with fail
 refine BF 3 (fun C HC => ?_)
 go_wp2_with (first | ((with_reducible refine AO (N:=17) rfl ?_); (refine wpList_load_row rfl 27 (.tmp 5) rfl w.heap.size (by rfl) 27 #[.int .i64 p.kind,.int .u32 p.mine,.int .u32 p.AB,.int .u32 p.yours,.int .u32 p.seq,.int .u32 p.AV,.int .u32 p.stamp,.int .u32 p.echo,.complex .f64 p.zr p.zi,.slice Ab p.body.length cb] (0,0) _ IQ.out Try.underlying27 rfl (by kernel_rfl) ?_)) | (go_at_call 20; (refine (check_any _ _ _ _ _ _ _ _ _ _ _ _ _ _ Em.out.zr Em.out.zi).mono ?_); (rintro e BX ⟨rfl,hb⟩); (rw [IU.out]); (have K0:=Lib.hid (TS.start (pc:=#[.int .i64 p.kind,.int .u32 p.mine,.int .u32 p.AB,.int .u32 p.yours,.int .u32 p.seq,.int .u32 p.AV,.int .u32 p.stamp,.int .u32 p.echo,.complex .f64 p.zr p.zi,.slice Ab p.body.length cb]) H.out HS.out hB (hb.mono (by simp)))); (clear hb); (have hl1:BX.cell? ⟨g,1,none⟩ = some (.int .i64 2):=(AA K0.out.at_.blk 1).trans (congrArg (fun x => some (Value.int .i64 x)) FH.out)); (have hp0:BX.cell? ⟨w.heap.size,0,none⟩ = some (.int .i64 1):=(AA K0.out.pb 0).trans (congrArg (fun x => some (Value.int .i64 x)) GN.out)); (have hp1:BX.cell? ⟨w.heap.size,1,none⟩ = some (.int .u32 p.mine):=(AA K0.out.pb 1).trans rfl)) | (go_at_call 76; (refine (Dy K0.out.at_ AB p.mine).mono ?_); (rintro e w1 ⟨rfl,rfl⟩); (rw [Jz.out])) | ((with_reducible refine gate_ (.store 4 (.tmp 40) (.const (.bool true))) rfl ?_); (refine AU (fun wz => TS w B S g #[.int .i64 p.kind,.int .u32 p.mine,.int .u32 p.AB,.int .u32 p.yours,.int .u32 p.seq,.int .u32 p.AV,.int .u32 p.stamp,.int .u32 p.echo,.complex .f64 p.zr p.zi,.slice Ab p.body.length cb] Ak Aj (fun _ => False) (L) q o true false false (.slice none 0 0) [] wz) rfl rfl ⟨_,(by have hz1:World.cell? BX ⟨w.heap.size + 1,0,none⟩ = some _:=(AA K0.out.tb 0).trans rfl; have hz2:=AL K0.out.tb 0; first | (go_simp; done) | (go_simp; rfl)),TS.FM K0.out hB 0 _ rfl⟩ (fun Ce hF => ?_)); (have K1:=Lib.hid hF); (clear hF); (clear hl1 hp0 hp1); (have hl1:Ce.cell? ⟨g,1,none⟩ = some (.int .i64 2):=(AA K1.out.at_.blk 1).trans (congrArg (fun x => some (Value.int .i64 x)) FH.out)); (have Oo:Ce.cell? ⟨w.heap.size,4,none⟩ = some (.int .u32 p.seq):=(AA K1.out.pb 4).trans rfl)))
 refine wp_goto ?_
 refine Jump.goto HC.out rfl ?_
 go_wp2_with (first | (go_at_call 73; (refine (Hu K1.out.at_ (OK.out) (Nat.le_trans hB K1.out.kept.1)).mono ?_); (rintro e BZ ⟨rfl,hE⟩); (obtain ⟨yX,AEq,hF⟩:=TS.I8 K1.out hB hE); (clear hE); (have K2:=Lib.hid hF); (clear hF); (clear hl1 Oo)))
 refine wp_goto ?_
 refine Jump.goto HC.out rfl ?_
 exact Z12
theorem Z19 {p:Prop} (h:p:=by
 refine wp_goto ?_
 refine Jump.goto HC.out rfl ?_
 go_wp2_with (first | ((with_reducible refine AO (N:=207) rfl ?_); (refine wpList_load_row rfl 56 (.tmp 6) rfl (w.heap.size + 1) (by rfl) 56 _ (0,0) _ (by first | exact K1.out.tb | exact (K1.out.drewN hB _).tb) Try.underlying56 rfl (by kernel_rfl) ?_)) | ((with_reducible refine gate_ (.store 56 (.tmp 6) (.tmp 207)) rfl ?_); (refine Ad rfl rfl 56 (.tmp 6) (.tmp 207) rfl (w.heap.size + 1) _ rfl rfl 56 _ (by first | exact K1.out.tb | exact (K1.out.drewN hB _).tb) (by kernel_rfl) rfl (by kernel_rfl) ?_); (intro BZ Hg Ey); (have hF:=TS.KQ (by first | exact K1.out | exact K1.out.drewN hB _ | exact K1.out.drew hB) hB Ey Hg (by first | exact K1.out.Fp | exact (K1.out.drewN hB _).Fp) (by first | exact K1.out.okb | exact (K1.out.drewN hB _).okb)); (have K2:=Lib.hid hF); (clear hF Hg Ey)))
 refine Jump.ret ?_
 refine bodyPost_ret ?_ rfl (K2.out.ends)
 exact Az Try.results34 _ _ rfl rfl (run_loadVar_row (P:=Try.prog) _ (w.heap.size + 1) 56 56 _ (0,0) _ K2.out.tb Try.underlying56 rfl (by kernel_rfl))):p:=h
theorem Qz {w:World} {B g:Nat} {Ak Aj S:Nat → Prop} {L:Lk} {q o:Value} (h:At w B Ak Aj g L q o) (hok:L.Ok) (hS:∀ k,holds Ak Aj g k → S k) (hB:B ≤ w.heap.size) (AB:Int) (p:Bz) (Ab:Option Addr) (cb:Nat)
  (hb0:AB ≠ 0) (hbr:0 ≤ AB ∧ AB < 4294967296) (hpr:p.NT) (hck:Bg p.kind p.mine p.AB p.yours p.seq p.AV p.stamp p.echo p.zr p.zi p.body.length = 0)  (DT:L.phase = 2) (hag:Bo L AB p.mine = 0) (hkd:p.kind = 1) (Jc:¬ p.seq = 0) :
  Calls Try.prog 34 #[.pointer (some ⟨g,0,none⟩),.int .u32 AB,.agg #[.int .i64 p.kind,.int .u32 p.mine,.int .u32 p.AB,.int .u32 p.yours,.int .u32 p.seq,.int .u32 p.AV,.int .u32 p.stamp,.int .u32 p.echo,.complex .f64 p.zr p.zi,.slice Ab p.body.length cb]] w fun e w' => EW w B S g (L) true false false [] e w':=by
 have IQ:=Lib.hid (show (((w.alloc (.cells #[.int .i64 p.kind,.int .u32 p.mine,.int .u32 p.AB,.int .u32 p.yours,.int .u32 p.seq,.int .u32 p.AV,.int .u32 p.stamp,.int .u32 p.echo,.complex .f64 p.zr p.zi,.slice Ab p.body.length cb] 27)).alloc (.cells #[.bool false,.bool false,.bool false,.slice none 0 0] 56))).heap[w.heap.size]? = some (.cells #[.int .i64 p.kind,.int .u32 p.mine,.int .u32 p.AB,.int .u32 p.yours,.int .u32 p.seq,.int .u32 p.AV,.int .u32 p.stamp,.int .u32 p.echo,.complex .f64 p.zr p.zi,.slice Ab p.body.length cb] 27 (0,0)) from (Below.heap_alloc _ _ _ (by simp)).trans (heap_alloc_new w _))
 have H:=Lib.hid h
 have OK:=Lib.hid hok
 have HS:=Lib.hid hS
 have Em:=Lib.hid hpr
 have IU:=Lib.hid hck
 have hbz:(AB == 0) = false:=by simp [hb0]
 have FH:=Lib.hid DT
 clear DT
 have Jz:=Lib.hid hag
 clear hag
 have GN:=Lib.hid hkd
 clear hkd
 have hd3:(p.seq == 0) = false:=by simp [Jc]
 clear Jc hbr
 clear h hok hS hpr hck hb0
 go_enter Try.func34,Try.ntmps34
 go_wp2_with fail
 refine BF 3 (fun C HC => ?_)
 go_wp2_with (first | ((with_reducible refine AO (N:=17) rfl ?_); (refine wpList_load_row rfl 27 (.tmp 5) rfl w.heap.size (by rfl) 27 #[.int .i64 p.kind,.int .u32 p.mine,.int .u32 p.AB,.int .u32 p.yours,.int .u32 p.seq,.int .u32 p.AV,.int .u32 p.stamp,.int .u32 p.echo,.complex .f64 p.zr p.zi,.slice Ab p.body.length cb] (0,0) _ IQ.out Try.underlying27 rfl (by kernel_rfl) ?_)) | (go_at_call 20; (refine (check_any _ _ _ _ _ _ _ _ _ _ _ _ _ _ Em.out.zr Em.out.zi).mono ?_); (rintro e BX ⟨rfl,hb⟩); (rw [IU.out]); (have K0:=Lib.hid (TS.start (pc:=#[.int .i64 p.kind,.int .u32 p.mine,.int .u32 p.AB,.int .u32 p.yours,.int .u32 p.seq,.int .u32 p.AV,.int .u32 p.stamp,.int .u32 p.echo,.complex .f64 p.zr p.zi,.slice Ab p.body.length cb]) H.out HS.out hB (hb.mono (by simp)))); (clear hb); (have hl1:BX.cell? ⟨g,1,none⟩ = some (.int .i64 2):=(AA K0.out.at_.blk 1).trans (congrArg (fun x => some (Value.int .i64 x)) FH.out)); (have hp0:BX.cell? ⟨w.heap.size,0,none⟩ = some (.int .i64 1):=(AA K0.out.pb 0).trans (congrArg (fun x => some (Value.int .i64 x)) GN.out)); (have hp1:BX.cell? ⟨w.heap.size,1,none⟩ = some (.int .u32 p.mine):=(AA K0.out.pb 1).trans rfl)) | (go_at_call 76; (refine (Dy K0.out.at_ AB p.mine).mono ?_); (rintro e w1 ⟨rfl,rfl⟩); (rw [Jz.out])) | ((with_reducible refine gate_ (.store 4 (.tmp 40) (.const (.bool true))) rfl ?_); (refine AU (fun wz => TS w B S g #[.int .i64 p.kind,.int .u32 p.mine,.int .u32 p.AB,.int .u32 p.yours,.int .u32 p.seq,.int .u32 p.AV,.int .u32 p.stamp,.int .u32 p.echo,.complex .f64 p.zr p.zi,.slice Ab p.body.length cb] Ak Aj (fun _ => False) (L) q o true false false (.slice none 0 0) [] wz) rfl rfl ⟨_,(by have hz1:World.cell? BX ⟨w.heap.size + 1,0,none⟩ = some _:=(AA K0.out.tb 0).trans rfl; have hz2:=AL K0.out.tb 0; first | (go_simp; done) | (go_simp; rfl)),TS.FM K0.out hB 0 _ rfl⟩ (fun Ce hF => ?_)); (have K1:=Lib.hid hF); (clear hF); (clear hl1 hp0 hp1); (have hl1:Ce.cell? ⟨g,1,none⟩ = some (.int .i64 2):=(AA K1.out.at_.blk 1).trans (congrArg (fun x => some (Value.int .i64 x)) FH.out)); (have Oo:Ce.cell? ⟨w.heap.size,4,none⟩ = some (.int .u32 p.seq):=(AA K1.out.pb 4).trans rfl)))
 refine wp_goto ?_
 refine Jump.goto HC.out rfl ?_
 go_wp2_with fail
 exact Z19
theorem TZ {w:World} {B g:Nat} {Ak Aj S:Nat → Prop} {L:Lk} {q o:Value} (h:At w B Ak Aj g L q o) (hok:L.Ok) (hS:∀ k,holds Ak Aj g k → S k) (hB:B ≤ w.heap.size) (AB:Int) (p:Bz) (Ab:Option Addr) (cb:Nat)
  (hb0:AB ≠ 0) (hbr:0 ≤ AB ∧ AB < 4294967296) (hpr:p.NT) (hck:Bg p.kind p.mine p.AB p.yours p.seq p.AV p.stamp p.echo p.zr p.zi p.body.length = 0)  (DT:L.phase = 2) (hag:Bo L AB p.mine = 1) (hkd:p.kind = 1) (hmx:L.token = 4294967295) :
  Calls Try.prog 34 #[.pointer (some ⟨g,0,none⟩),.int .u32 AB,.agg #[.int .i64 p.kind,.int .u32 p.mine,.int .u32 p.AB,.int .u32 p.yours,.int .u32 p.seq,.int .u32 p.AV,.int .u32 p.stamp,.int .u32 p.echo,.complex .f64 p.zr p.zi,.slice Ab p.body.length cb]] w fun e w' => EW w B S g (Aa L) true false true [] e w':=by
 have IQ:=Lib.hid (show (((w.alloc (.cells #[.int .i64 p.kind,.int .u32 p.mine,.int .u32 p.AB,.int .u32 p.yours,.int .u32 p.seq,.int .u32 p.AV,.int .u32 p.stamp,.int .u32 p.echo,.complex .f64 p.zr p.zi,.slice Ab p.body.length cb] 27)).alloc (.cells #[.bool false,.bool false,.bool false,.slice none 0 0] 56))).heap[w.heap.size]? = some (.cells #[.int .i64 p.kind,.int .u32 p.mine,.int .u32 p.AB,.int .u32 p.yours,.int .u32 p.seq,.int .u32 p.AV,.int .u32 p.stamp,.int .u32 p.echo,.complex .f64 p.zr p.zi,.slice Ab p.body.length cb] 27 (0,0)) from (Below.heap_alloc _ _ _ (by simp)).trans (heap_alloc_new w _))
 have H:=Lib.hid h
 have OK:=Lib.hid hok
 have HS:=Lib.hid hS
 have Em:=Lib.hid hpr
 have IU:=Lib.hid hck
 have hbz:(AB == 0) = false:=by simp [hb0]
 have FH:=Lib.hid DT
 clear DT
 have Jz:=Lib.hid hag
 clear hag
 have GN:=Lib.hid hkd
 clear hkd
 have hd3:(L.token == 4294967295) = true:=by simp [hmx]
 clear hmx hbr
 clear h hok hS hpr hck hb0
 go_enter Try.func34,Try.ntmps34
 go_wp2_with fail
 refine BF 3 (fun C HC => ?_)
 go_wp2_with (first | ((with_reducible refine AO (N:=17) rfl ?_); (refine wpList_load_row rfl 27 (.tmp 5) rfl w.heap.size (by rfl) 27 #[.int .i64 p.kind,.int .u32 p.mine,.int .u32 p.AB,.int .u32 p.yours,.int .u32 p.seq,.int .u32 p.AV,.int .u32 p.stamp,.int .u32 p.echo,.complex .f64 p.zr p.zi,.slice Ab p.body.length cb] (0,0) _ IQ.out Try.underlying27 rfl (by kernel_rfl) ?_)) | (go_at_call 20; (refine (check_any _ _ _ _ _ _ _ _ _ _ _ _ _ _ Em.out.zr Em.out.zi).mono ?_); (rintro e BX ⟨rfl,hb⟩); (rw [IU.out]); (have K0:=Lib.hid (TS.start (pc:=#[.int .i64 p.kind,.int .u32 p.mine,.int .u32 p.AB,.int .u32 p.yours,.int .u32 p.seq,.int .u32 p.AV,.int .u32 p.stamp,.int .u32 p.echo,.complex .f64 p.zr p.zi,.slice Ab p.body.length cb]) H.out HS.out hB (hb.mono (by simp)))); (clear hb); (have hl1:BX.cell? ⟨g,1,none⟩ = some (.int .i64 2):=(AA K0.out.at_.blk 1).trans (congrArg (fun x => some (Value.int .i64 x)) FH.out)); (have hp0:BX.cell? ⟨w.heap.size,0,none⟩ = some (.int .i64 1):=(AA K0.out.pb 0).trans (congrArg (fun x => some (Value.int .i64 x)) GN.out)); (have hp1:BX.cell? ⟨w.heap.size,1,none⟩ = some (.int .u32 p.mine):=(AA K0.out.pb 1).trans rfl)) | (go_at_call 76; (refine (Dy K0.out.at_ AB p.mine).mono ?_); (rintro e w1 ⟨rfl,rfl⟩); (rw [Jz.out])) | ((with_reducible refine gate_ (.store 4 (.tmp 40) (.const (.bool true))) rfl ?_); (refine AU (fun wz => TS w B S g #[.int .i64 p.kind,.int .u32 p.mine,.int .u32 p.AB,.int .u32 p.yours,.int .u32 p.seq,.int .u32 p.AV,.int .u32 p.stamp,.int .u32 p.echo,.complex .f64 p.zr p.zi,.slice Ab p.body.length cb] Ak Aj (fun _ => False) (L) q o true false false (.slice none 0 0) [] wz) rfl rfl ⟨_,(by have hz1:World.cell? BX ⟨w.heap.size + 1,0,none⟩ = some _:=(AA K0.out.tb 0).trans rfl; have hz2:=AL K0.out.tb 0; first | (go_simp; done) | (go_simp; rfl)),TS.FM K0.out hB 0 _ rfl⟩ (fun Ce hF => ?_)); (have K1:=Lib.hid hF); (clear hF); (clear hl1 hp0 hp1); (have hl1:Ce.cell? ⟨g,1,none⟩ = some (.int .i64 2):=(AA K1.out.at_.blk 1).trans (congrArg (fun x => some (Value.int .i64 x)) FH.out)); (have hp0:Ce.cell? ⟨w.heap.size,0,none⟩ = some (.int .i64 1):=(AA K1.out.pb 0).trans (congrArg (fun x => some (Value.int .i64 x)) GN.out))))
 refine wp_goto ?_
 refine Jump.goto HC.out rfl ?_
 go_wp2_with (first | ((with_reducible refine gate_ (.store 4 (.tmp 89) (.const (.bool true))) rfl ?_); (refine AU (fun wz => TS w B S g #[.int .i64 p.kind,.int .u32 p.mine,.int .u32 p.AB,.int .u32 p.yours,.int .u32 p.seq,.int .u32 p.AV,.int .u32 p.stamp,.int .u32 p.echo,.complex .f64 p.zr p.zi,.slice Ab p.body.length cb] Ak Aj (fun _ => False) (L) q o true false true (.slice none 0 0) [] wz) rfl rfl ⟨_,(by have hz1:World.cell? Ce ⟨w.heap.size + 1,2,none⟩ = some _:=(AA K1.out.tb 2).trans rfl; have hz2:=AL K1.out.tb 2; first | (go_simp; done) | (go_simp; rfl)),TS.FM K1.out hB 2 _ rfl⟩ (fun BZ hF => ?_)); (have K2:=Lib.hid hF); (clear hF); (clear hl1 hp0); (have hl2:BZ.cell? ⟨g,2,none⟩ = some (.int .u32 L.token):=(AA K2.out.at_.blk 2).trans rfl)) | (go_at_call 78; (refine (VJ K2.out.at_).mono ?_); (rintro e DK ⟨rfl,h1,hat⟩); (have K3:=Lib.hid (K2.out.WM hB hat h1 (fun _ hf => hf.elim))); (clear h1 hat); (clear hl2)))
 refine wp_goto ?_
 refine Jump.goto HC.out rfl ?_
 go_wp2_with (first | ((with_reducible refine AO (N:=207) rfl ?_); (refine wpList_load_row rfl 56 (.tmp 6) rfl (w.heap.size + 1) (by rfl) 56 _ (0,0) _ (by first | exact K3.out.tb | exact (K3.out.drewN hB _).tb) Try.underlying56 rfl (by kernel_rfl) ?_)) | ((with_reducible refine gate_ (.store 56 (.tmp 6) (.tmp 207)) rfl ?_); (refine Ad rfl rfl 56 (.tmp 6) (.tmp 207) rfl (w.heap.size + 1) _ rfl rfl 56 _ (by first | exact K3.out.tb | exact (K3.out.drewN hB _).tb) (by kernel_rfl) rfl (by kernel_rfl) ?_); (intro EL Hg Ey); (have hF:=TS.KQ (by first | exact K3.out | exact K3.out.drewN hB _ | exact K3.out.drew hB) hB Ey Hg (by first | exact K3.out.Fp | exact (K3.out.drewN hB _).Fp) (by first | exact K3.out.okb | exact (K3.out.drewN hB _).okb)); (have K4:=Lib.hid hF); (clear hF Hg Ey)))
 refine Jump.ret ?_
 refine bodyPost_ret ?_ rfl (K4.out.ends)
 exact Az Try.results34 _ _ rfl rfl (run_loadVar_row (P:=Try.prog) _ (w.heap.size + 1) 56 56 _ (0,0) _ K4.out.tb Try.underlying56 rfl (by kernel_rfl))
theorem Tc {w:World} {B g:Nat} {Ak Aj S:Nat → Prop} {L:Lk} {q o:Value} (h:At w B Ak Aj g L q o) (hok:L.Ok) (hS:∀ k,holds Ak Aj g k → S k) (hB:B ≤ w.heap.size) (AB:Int) (p:Bz) (Ab:Option Addr) (cb:Nat)
  (hb0:AB ≠ 0) (hbr:0 ≤ AB ∧ AB < 4294967296) (hpr:p.NT) (hck:Bg p.kind p.mine p.AB p.yours p.seq p.AV p.stamp p.echo p.zr p.zi p.body.length = 0)  (DT:L.phase = 2) (hag:Bo L AB p.mine = 1) (hkd:p.kind = 1) (hmx:¬ L.token = 4294967295) :
  Calls Try.prog 34 #[.pointer (some ⟨g,0,none⟩),.int .u32 AB,.agg #[.int .i64 p.kind,.int .u32 p.mine,.int .u32 p.AB,.int .u32 p.yours,.int .u32 p.seq,.int .u32 p.AV,.int .u32 p.stamp,.int .u32 p.echo,.complex .f64 p.zr p.zi,.slice Ab p.body.length cb]] w fun e w' => EW w B S g (emit_ ({ CB L with AB:=AB,yours:=p.mine,known:=true }) (Bc ({ CB L with AB:=AB,yours:=p.mine,known:=true }))) true false true [] e w':=by
 have IQ:=Lib.hid (show (((w.alloc (.cells #[.int .i64 p.kind,.int .u32 p.mine,.int .u32 p.AB,.int .u32 p.yours,.int .u32 p.seq,.int .u32 p.AV,.int .u32 p.stamp,.int .u32 p.echo,.complex .f64 p.zr p.zi,.slice Ab p.body.length cb] 27)).alloc (.cells #[.bool false,.bool false,.bool false,.slice none 0 0] 56))).heap[w.heap.size]? = some (.cells #[.int .i64 p.kind,.int .u32 p.mine,.int .u32 p.AB,.int .u32 p.yours,.int .u32 p.seq,.int .u32 p.AV,.int .u32 p.stamp,.int .u32 p.echo,.complex .f64 p.zr p.zi,.slice Ab p.body.length cb] 27 (0,0)) from (Below.heap_alloc _ _ _ (by simp)).trans (heap_alloc_new w _))
 have H:=Lib.hid h
 have OK:=Lib.hid hok
 have HS:=Lib.hid hS
 have Em:=Lib.hid hpr
 have IU:=Lib.hid hck
 have hbz:(AB == 0) = false:=by simp [hb0]
 have FH:=Lib.hid DT
 clear DT
 have Jz:=Lib.hid hag
 clear hag
 have GN:=Lib.hid hkd
 clear hkd
 have hd3:(L.token == 4294967295) = false:=by simp [hmx]
 have htk:L.token < 4294967295:=by have:=OK.out.token; omega
 have eu:=Lib.hid htk
 clear htk
 have qX:=Lib.hid (MO (NQ OK.out eu.out) hbr Em.out.mine true)
 clear hmx hbr
 clear h hok hS hpr hck hb0
 go_enter Try.func34,Try.ntmps34
 go_wp2_with fail
 refine BF 3 (fun C HC => ?_)
 go_wp2_with (first | ((with_reducible refine AO (N:=17) rfl ?_); (refine wpList_load_row rfl 27 (.tmp 5) rfl w.heap.size (by rfl) 27 #[.int .i64 p.kind,.int .u32 p.mine,.int .u32 p.AB,.int .u32 p.yours,.int .u32 p.seq,.int .u32 p.AV,.int .u32 p.stamp,.int .u32 p.echo,.complex .f64 p.zr p.zi,.slice Ab p.body.length cb] (0,0) _ IQ.out Try.underlying27 rfl (by kernel_rfl) ?_)) | (go_at_call 20; (refine (check_any _ _ _ _ _ _ _ _ _ _ _ _ _ _ Em.out.zr Em.out.zi).mono ?_); (rintro e BX ⟨rfl,hb⟩); (rw [IU.out]); (have K0:=Lib.hid (TS.start (pc:=#[.int .i64 p.kind,.int .u32 p.mine,.int .u32 p.AB,.int .u32 p.yours,.int .u32 p.seq,.int .u32 p.AV,.int .u32 p.stamp,.int .u32 p.echo,.complex .f64 p.zr p.zi,.slice Ab p.body.length cb]) H.out HS.out hB (hb.mono (by simp)))); (clear hb); (have hl1:BX.cell? ⟨g,1,none⟩ = some (.int .i64 2):=(AA K0.out.at_.blk 1).trans (congrArg (fun x => some (Value.int .i64 x)) FH.out)); (have hp0:BX.cell? ⟨w.heap.size,0,none⟩ = some (.int .i64 1):=(AA K0.out.pb 0).trans (congrArg (fun x => some (Value.int .i64 x)) GN.out)); (have hp1:BX.cell? ⟨w.heap.size,1,none⟩ = some (.int .u32 p.mine):=(AA K0.out.pb 1).trans rfl)) | (go_at_call 76; (refine (Dy K0.out.at_ AB p.mine).mono ?_); (rintro e w1 ⟨rfl,rfl⟩); (rw [Jz.out])) | ((with_reducible refine gate_ (.store 4 (.tmp 40) (.const (.bool true))) rfl ?_); (refine AU (fun wz => TS w B S g #[.int .i64 p.kind,.int .u32 p.mine,.int .u32 p.AB,.int .u32 p.yours,.int .u32 p.seq,.int .u32 p.AV,.int .u32 p.stamp,.int .u32 p.echo,.complex .f64 p.zr p.zi,.slice Ab p.body.length cb] Ak Aj (fun _ => False) (L) q o true false false (.slice none 0 0) [] wz) rfl rfl ⟨_,(by have hz1:World.cell? BX ⟨w.heap.size + 1,0,none⟩ = some _:=(AA K0.out.tb 0).trans rfl; have hz2:=AL K0.out.tb 0; first | (go_simp; done) | (go_simp; rfl)),TS.FM K0.out hB 0 _ rfl⟩ (fun Ce hF => ?_)); (have K1:=Lib.hid hF); (clear hF); (clear hl1 hp0 hp1); (have hl1:Ce.cell? ⟨g,1,none⟩ = some (.int .i64 2):=(AA K1.out.at_.blk 1).trans (congrArg (fun x => some (Value.int .i64 x)) FH.out)); (have hp0:Ce.cell? ⟨w.heap.size,0,none⟩ = some (.int .i64 1):=(AA K1.out.pb 0).trans (congrArg (fun x => some (Value.int .i64 x)) GN.out))))
 refine wp_goto ?_
 refine Jump.goto HC.out rfl ?_
 go_wp2_with (first | ((with_reducible refine gate_ (.store 4 (.tmp 89) (.const (.bool true))) rfl ?_); (refine AU (fun wz => TS w B S g #[.int .i64 p.kind,.int .u32 p.mine,.int .u32 p.AB,.int .u32 p.yours,.int .u32 p.seq,.int .u32 p.AV,.int .u32 p.stamp,.int .u32 p.echo,.complex .f64 p.zr p.zi,.slice Ab p.body.length cb] Ak Aj (fun _ => False) (L) q o true false true (.slice none 0 0) [] wz) rfl rfl ⟨_,(by have hz1:World.cell? Ce ⟨w.heap.size + 1,2,none⟩ = some _:=(AA K1.out.tb 2).trans rfl; have hz2:=AL K1.out.tb 2; first | (go_simp; done) | (go_simp; rfl)),TS.FM K1.out hB 2 _ rfl⟩ (fun BZ hF => ?_)); (have K2:=Lib.hid hF); (clear hF); (clear hl1 hp0); (have hl2:BZ.cell? ⟨g,2,none⟩ = some (.int .u32 L.token):=(AA K2.out.at_.blk 2).trans rfl)) | (go_at_call 72; (refine (Qu K2.out.at_ OK.out eu.out).mono ?_); (rintro e DK ⟨rfl,h1,hat⟩); (have K3:=Lib.hid (K2.out.WM hB hat h1 (fun _ hf => hf.elim))); (clear h1 hat); (clear hl2)))
 have hSS:DK.drew.heap[w.heap.size]? = some (.cells #[.int .i64 p.kind,.int .u32 p.mine,.int .u32 p.AB,.int .u32 p.yours,.int .u32 p.seq,.int .u32 p.AV,.int .u32 p.stamp,.int .u32 p.echo,.complex .f64 p.zr p.zi,.slice Ab p.body.length cb] 27 (0,0)):=K3.out.pb
 have hts:=K3.out.drew hB
 refine BA (n:=15) (S:=fun w' => w'.heap[w.heap.size]? = some (.cells #[.int .i64 p.kind,.int .u32 p.mine,.int .u32 p.AB,.int .u32 p.yours,.int .u32 p.seq,.int .u32 p.AV,.int .u32 p.stamp,.int .u32 p.echo,.complex .f64 p.zr p.zi,.slice Ab p.body.length cb] 27 (0,0))) (ds:=[]) Vp (by kernel_rfl) rfl rfl (hSS) (fun hHeld => ?_)
 generalize DK.drew = yY at hts hHeld ⊢
 have yZ:=Lib.hid hts
 clear hts hSS
 refine pu 0 99 Vq ?_
 refine pu 1 100 Vr ?_
 refine pu 2 101 Vs ?_
 refine pu 3 102 Vt ?_
 refine pu 4 103 Vu ?_
 refine tk 5 104 Vw hHeld ?_ (hf:=by intro w' s0; have hp1:w'.cell? ⟨w.heap.size,1,none⟩ = some (.int .u32 p.mine):=(AA s0 1).trans rfl; clear s0; go_simp; with_reducible rfl)
 refine pu 6 105 Vx ?_
 refine pu 7 106 Vy ?_
 refine on 8 none Vz fun K hK => ?_
 have hz1:yY.cell? ⟨g,3,none⟩ = some _:=(AA yZ.out.at_.blk 3).trans rfl
 have hz2:=AL yZ.out.at_.blk 3
 refine CG (fun wz => TS w B S g #[.int .i64 p.kind,.int .u32 p.mine,.int .u32 p.AB,.int .u32 p.yours,.int .u32 p.seq,.int .u32 p.AV,.int .u32 p.stamp,.int .u32 p.echo,.complex .f64 p.zr p.zi,.slice Ab p.body.length cb] (fun _ => False) Aj (fun _ => False) ({ CB L with AB:=AB }) (.slice none 0 0) o true false true (.slice none 0 0) [] wz) (by rfl) rfl ⟨_,by first | (go_simp; done) | (go_simp; rfl),TS.ET yZ.out hB 3 _ rfl rfl rfl⟩ (fun Ea hF => ?_)
 have K5:=Lib.hid hF
 clear hF hz1 hz2 hHeld
 refine hK.out _ _ K5.out.pb (fun hHeld => ?_)
 clear hK K
 refine pu 9 107 gZ ?_
 refine pu 10 108 gu ?_
 refine on 11 none gy fun K hK => ?_
 have hz1:Ea.cell? ⟨g,4,none⟩ = some _:=(AA K5.out.at_.blk 4).trans rfl
 have hz2:=AL K5.out.at_.blk 4
 refine CG (fun wz => TS w B S g #[.int .i64 p.kind,.int .u32 p.mine,.int .u32 p.AB,.int .u32 p.yours,.int .u32 p.seq,.int .u32 p.AV,.int .u32 p.stamp,.int .u32 p.echo,.complex .f64 p.zr p.zi,.slice Ab p.body.length cb] (fun _ => False) Aj (fun _ => False) ({ CB L with AB:=AB,yours:=p.mine }) (.slice none 0 0) o true false true (.slice none 0 0) [] wz) (by rfl) rfl ⟨_,by first | (go_simp; done) | (go_simp; rfl),TS.ET K5.out hB 4 _ rfl rfl rfl⟩ (fun Jv hF => ?_)
 have K6:=Lib.hid hF
 clear hF hz1 hz2 hHeld
 refine hK.out _ _ K6.out.pb (fun hHeld => ?_)
 clear hK K
 refine pu 12 109 Ql ?_
 refine pu 13 110 XW ?_
 refine on 14 none XX fun K hK => ?_
 have hz1:Jv.cell? ⟨g,5,none⟩ = some _:=(AA K6.out.at_.blk 5).trans rfl
 have hz2:=AL K6.out.at_.blk 5
 refine CG (fun wz => TS w B S g #[.int .i64 p.kind,.int .u32 p.mine,.int .u32 p.AB,.int .u32 p.yours,.int .u32 p.seq,.int .u32 p.AV,.int .u32 p.stamp,.int .u32 p.echo,.complex .f64 p.zr p.zi,.slice Ab p.body.length cb] (fun _ => False) Aj (fun _ => False) ({ CB L with AB:=AB,yours:=p.mine,known:=true }) (.slice none 0 0) o true false true (.slice none 0 0) [] wz) (by rfl) rfl ⟨_,by first | (go_simp; done) | (go_simp; rfl),TS.ET K6.out hB 5 _ rfl rfl rfl⟩ (fun Jb hF => ?_)
 have K7:=Lib.hid hF
 clear hF hz1 hz2 hHeld
 refine hK.out _ _ K7.out.pb (fun hHeld => ?_)
 clear hK K
 refine BG (by kernel_rfl) ?_
 clear hHeld
 go_wp2_with (first | (go_at_call 73; (refine (Hu K7.out.at_ (qX.out) (Nat.le_trans hB K7.out.kept.1)).mono ?_); (rintro e Qv ⟨rfl,hE⟩); (obtain ⟨yc,AEr,hF⟩:=TS.I8 K7.out hB hE); (clear hE); (have K8:=Lib.hid hF); (clear hF)))
 refine wp_goto ?_
 refine Jump.goto HC.out rfl ?_
 go_wp2_with (first | ((with_reducible refine AO (N:=207) rfl ?_); (refine wpList_load_row rfl 56 (.tmp 6) rfl (w.heap.size + 1) (by rfl) 56 _ (0,0) _ (by first | exact K8.out.tb | exact (K8.out.drewN hB _).tb) Try.underlying56 rfl (by kernel_rfl) ?_)) | ((with_reducible refine gate_ (.store 56 (.tmp 6) (.tmp 207)) rfl ?_); (refine Ad rfl rfl 56 (.tmp 6) (.tmp 207) rfl (w.heap.size + 1) _ rfl rfl 56 _ (by first | exact K8.out.tb | exact (K8.out.drewN hB _).tb) (by kernel_rfl) rfl (by kernel_rfl) ?_); (intro ax Hg Ey); (have hF:=TS.KQ (by first | exact K8.out | exact K8.out.drewN hB _ | exact K8.out.drew hB) hB Ey Hg (by first | exact K8.out.Fp | exact (K8.out.drewN hB _).Fp) (by first | exact K8.out.okb | exact (K8.out.drewN hB _).okb)); (have K9:=Lib.hid hF); (clear hF Hg Ey)))
 refine Jump.ret ?_
 refine bodyPost_ret ?_ rfl (K9.out.ends)
 exact Az Try.results34 _ _ rfl rfl (run_loadVar_row (P:=Try.prog) _ (w.heap.size + 1) 56 56 _ (0,0) _ K9.out.tb Try.underlying56 rfl (by kernel_rfl))
theorem YG {w:World} {B g:Nat} {Ak Aj S:Nat → Prop} {L:Lk} {q o:Value} (h:At w B Ak Aj g L q o) (hok:L.Ok) (hS:∀ k,holds Ak Aj g k → S k) (hB:B ≤ w.heap.size) (AB:Int) (p:Bz) (Ab:Option Addr) (cb:Nat)
  (hb0:AB ≠ 0) (hbr:0 ≤ AB ∧ AB < 4294967296) (hpr:p.NT) (hck:Bg p.kind p.mine p.AB p.yours p.seq p.AV p.stamp p.echo p.zr p.zi p.body.length = 0)  (DT:L.phase = 1) (hag:0 ≤ Bo L AB p.mine) (hkn:p.kind ≠ 1) :
  Calls Try.prog 34 #[.pointer (some ⟨g,0,none⟩),.int .u32 AB,.agg #[.int .i64 p.kind,.int .u32 p.mine,.int .u32 p.AB,.int .u32 p.yours,.int .u32 p.seq,.int .u32 p.AV,.int .u32 p.stamp,.int .u32 p.echo,.complex .f64 p.zr p.zi,.slice Ab p.body.length cb]] w fun e w' => EW w B S g (L) false false false [] e w':=by
 have IQ:=Lib.hid (show (((w.alloc (.cells #[.int .i64 p.kind,.int .u32 p.mine,.int .u32 p.AB,.int .u32 p.yours,.int .u32 p.seq,.int .u32 p.AV,.int .u32 p.stamp,.int .u32 p.echo,.complex .f64 p.zr p.zi,.slice Ab p.body.length cb] 27)).alloc (.cells #[.bool false,.bool false,.bool false,.slice none 0 0] 56))).heap[w.heap.size]? = some (.cells #[.int .i64 p.kind,.int .u32 p.mine,.int .u32 p.AB,.int .u32 p.yours,.int .u32 p.seq,.int .u32 p.AV,.int .u32 p.stamp,.int .u32 p.echo,.complex .f64 p.zr p.zi,.slice Ab p.body.length cb] 27 (0,0)) from (Below.heap_alloc _ _ _ (by simp)).trans (heap_alloc_new w _))
 have H:=Lib.hid h
 have OK:=Lib.hid hok
 have HS:=Lib.hid hS
 have Em:=Lib.hid hpr
 have IU:=Lib.hid hck
 have hbz:(AB == 0) = false:=by simp [hb0]
 have FH:=Lib.hid DT
 clear DT
 have hd2:decide (Bo L AB p.mine < 0) = false:=by simp; omega
 clear hag hbr
 have hd4:(p.kind == 1) = false:=by simp [hkn]
 clear hkn
 clear h hok hS hpr hck hb0
 go_enter Try.func34,Try.ntmps34
 go_wp2_with fail
 refine BF 3 (fun C HC => ?_)
 go_wp2_with (first | ((with_reducible refine AO (N:=17) rfl ?_); (refine wpList_load_row rfl 27 (.tmp 5) rfl w.heap.size (by rfl) 27 #[.int .i64 p.kind,.int .u32 p.mine,.int .u32 p.AB,.int .u32 p.yours,.int .u32 p.seq,.int .u32 p.AV,.int .u32 p.stamp,.int .u32 p.echo,.complex .f64 p.zr p.zi,.slice Ab p.body.length cb] (0,0) _ IQ.out Try.underlying27 rfl (by kernel_rfl) ?_)) | (go_at_call 20; (refine (check_any _ _ _ _ _ _ _ _ _ _ _ _ _ _ Em.out.zr Em.out.zi).mono ?_); (rintro e BX ⟨rfl,hb⟩); (rw [IU.out]); (have K0:=Lib.hid (TS.start (pc:=#[.int .i64 p.kind,.int .u32 p.mine,.int .u32 p.AB,.int .u32 p.yours,.int .u32 p.seq,.int .u32 p.AV,.int .u32 p.stamp,.int .u32 p.echo,.complex .f64 p.zr p.zi,.slice Ab p.body.length cb]) H.out HS.out hB (hb.mono (by simp)))); (clear hb); (have hl1:BX.cell? ⟨g,1,none⟩ = some (.int .i64 1):=(AA K0.out.at_.blk 1).trans (congrArg (fun x => some (Value.int .i64 x)) FH.out)); (have hp0:BX.cell? ⟨w.heap.size,0,none⟩ = some (.int .i64 p.kind):=(AA K0.out.pb 0).trans rfl); (have hp1:BX.cell? ⟨w.heap.size,1,none⟩ = some (.int .u32 p.mine):=(AA K0.out.pb 1).trans rfl)) | (go_at_call 76; (refine (Dy K0.out.at_ AB p.mine).mono ?_); (rintro e w1 ⟨rfl,rfl⟩); (skip)))
 exact Z7
theorem YH {w:World} {B g:Nat} {Ak Aj S:Nat → Prop} {L:Lk} {q o:Value} (h:At w B Ak Aj g L q o) (hok:L.Ok) (hS:∀ k,holds Ak Aj g k → S k) (hB:B ≤ w.heap.size) (AB:Int) (p:Bz) (Ab:Option Addr) (cb:Nat)
  (hb0:AB ≠ 0) (hbr:0 ≤ AB ∧ AB < 4294967296) (hpr:p.NT) (hck:Bg p.kind p.mine p.AB p.yours p.seq p.AV p.stamp p.echo p.zr p.zi p.body.length = 0)  (DT:L.phase = 2) (hag:Bo L AB p.mine = 1) (hkn:p.kind ≠ 1) :
  Calls Try.prog 34 #[.pointer (some ⟨g,0,none⟩),.int .u32 AB,.agg #[.int .i64 p.kind,.int .u32 p.mine,.int .u32 p.AB,.int .u32 p.yours,.int .u32 p.seq,.int .u32 p.AV,.int .u32 p.stamp,.int .u32 p.echo,.complex .f64 p.zr p.zi,.slice Ab p.body.length cb]] w fun e w' => EW w B S g (L) false false false [] e w':=by
 have IQ:=Lib.hid (show (((w.alloc (.cells #[.int .i64 p.kind,.int .u32 p.mine,.int .u32 p.AB,.int .u32 p.yours,.int .u32 p.seq,.int .u32 p.AV,.int .u32 p.stamp,.int .u32 p.echo,.complex .f64 p.zr p.zi,.slice Ab p.body.length cb] 27)).alloc (.cells #[.bool false,.bool false,.bool false,.slice none 0 0] 56))).heap[w.heap.size]? = some (.cells #[.int .i64 p.kind,.int .u32 p.mine,.int .u32 p.AB,.int .u32 p.yours,.int .u32 p.seq,.int .u32 p.AV,.int .u32 p.stamp,.int .u32 p.echo,.complex .f64 p.zr p.zi,.slice Ab p.body.length cb] 27 (0,0)) from (Below.heap_alloc _ _ _ (by simp)).trans (heap_alloc_new w _))
 have H:=Lib.hid h
 have OK:=Lib.hid hok
 have HS:=Lib.hid hS
 have Em:=Lib.hid hpr
 have IU:=Lib.hid hck
 have hbz:(AB == 0) = false:=by simp [hb0]
 have FH:=Lib.hid DT
 clear DT
 have Jz:=Lib.hid hag
 clear hag
 clear hbr
 have hd4:(p.kind == 1) = false:=by simp [hkn]
 clear hkn
 clear h hok hS hpr hck hb0
 go_enter Try.func34,Try.ntmps34
 go_wp2_with fail
 refine BF 3 (fun C HC => ?_)
 go_wp2_with (first | ((with_reducible refine AO (N:=17) rfl ?_); (refine wpList_load_row rfl 27 (.tmp 5) rfl w.heap.size (by rfl) 27 #[.int .i64 p.kind,.int .u32 p.mine,.int .u32 p.AB,.int .u32 p.yours,.int .u32 p.seq,.int .u32 p.AV,.int .u32 p.stamp,.int .u32 p.echo,.complex .f64 p.zr p.zi,.slice Ab p.body.length cb] (0,0) _ IQ.out Try.underlying27 rfl (by kernel_rfl) ?_)) | (go_at_call 20; (refine (check_any _ _ _ _ _ _ _ _ _ _ _ _ _ _ Em.out.zr Em.out.zi).mono ?_); (rintro e BX ⟨rfl,hb⟩); (rw [IU.out]); (have K0:=Lib.hid (TS.start (pc:=#[.int .i64 p.kind,.int .u32 p.mine,.int .u32 p.AB,.int .u32 p.yours,.int .u32 p.seq,.int .u32 p.AV,.int .u32 p.stamp,.int .u32 p.echo,.complex .f64 p.zr p.zi,.slice Ab p.body.length cb]) H.out HS.out hB (hb.mono (by simp)))); (clear hb); (have hl1:BX.cell? ⟨g,1,none⟩ = some (.int .i64 2):=(AA K0.out.at_.blk 1).trans (congrArg (fun x => some (Value.int .i64 x)) FH.out)); (have hp0:BX.cell? ⟨w.heap.size,0,none⟩ = some (.int .i64 p.kind):=(AA K0.out.pb 0).trans rfl); (have hp1:BX.cell? ⟨w.heap.size,1,none⟩ = some (.int .u32 p.mine):=(AA K0.out.pb 1).trans rfl)) | (go_at_call 76; (refine (Dy K0.out.at_ AB p.mine).mono ?_); (rintro e w1 ⟨rfl,rfl⟩); (rw [Jz.out])))
 exact Z7
theorem YI {w:World} {B g:Nat} {Ak Aj S:Nat → Prop} {L:Lk} {q o:Value} (h:At w B Ak Aj g L q o) (hok:L.Ok) (hS:∀ k,holds Ak Aj g k → S k) (hB:B ≤ w.heap.size) (AB:Int) (p:Bz) (Ab:Option Addr) (cb:Nat)
  (hb0:AB ≠ 0) (hbr:0 ≤ AB ∧ AB < 4294967296) (hpr:p.NT) (hck:Bg p.kind p.mine p.AB p.yours p.seq p.AV p.stamp p.echo p.zr p.zi p.body.length = 0)  (DT:L.phase = 2) (hag:Bo L AB p.mine = 0) (hkn:p.kind ≠ 1) (hmn:BI L p = false) :
  Calls Try.prog 34 #[.pointer (some ⟨g,0,none⟩),.int .u32 AB,.agg #[.int .i64 p.kind,.int .u32 p.mine,.int .u32 p.AB,.int .u32 p.yours,.int .u32 p.seq,.int .u32 p.AV,.int .u32 p.stamp,.int .u32 p.echo,.complex .f64 p.zr p.zi,.slice Ab p.body.length cb]] w fun e w' => EW w B S g (L) false false false [] e w':=by
 have IQ:=Lib.hid (show (((w.alloc (.cells #[.int .i64 p.kind,.int .u32 p.mine,.int .u32 p.AB,.int .u32 p.yours,.int .u32 p.seq,.int .u32 p.AV,.int .u32 p.stamp,.int .u32 p.echo,.complex .f64 p.zr p.zi,.slice Ab p.body.length cb] 27)).alloc (.cells #[.bool false,.bool false,.bool false,.slice none 0 0] 56))).heap[w.heap.size]? = some (.cells #[.int .i64 p.kind,.int .u32 p.mine,.int .u32 p.AB,.int .u32 p.yours,.int .u32 p.seq,.int .u32 p.AV,.int .u32 p.stamp,.int .u32 p.echo,.complex .f64 p.zr p.zi,.slice Ab p.body.length cb] 27 (0,0)) from (Below.heap_alloc _ _ _ (by simp)).trans (heap_alloc_new w _))
 have H:=Lib.hid h
 have OK:=Lib.hid hok
 have HS:=Lib.hid hS
 have Em:=Lib.hid hpr
 have IU:=Lib.hid hck
 have hbz:(AB == 0) = false:=by simp [hb0]
 have FH:=Lib.hid DT
 clear DT
 have Jz:=Lib.hid hag
 clear hag
 clear hbr
 have NU:=Lib.hid hmn
 clear hmn
 have hd4:(p.kind == 1) = false:=by simp [hkn]
 clear hkn
 clear h hok hS hpr hck hb0
 go_enter Try.func34,Try.ntmps34
 go_wp2_with fail
 refine BF 3 (fun C HC => ?_)
 go_wp2_with (first | ((with_reducible refine AO (N:=17) rfl ?_); (refine wpList_load_row rfl 27 (.tmp 5) rfl w.heap.size (by rfl) 27 #[.int .i64 p.kind,.int .u32 p.mine,.int .u32 p.AB,.int .u32 p.yours,.int .u32 p.seq,.int .u32 p.AV,.int .u32 p.stamp,.int .u32 p.echo,.complex .f64 p.zr p.zi,.slice Ab p.body.length cb] (0,0) _ IQ.out Try.underlying27 rfl (by kernel_rfl) ?_)) | (go_at_call 20; (refine (check_any _ _ _ _ _ _ _ _ _ _ _ _ _ _ Em.out.zr Em.out.zi).mono ?_); (rintro e BX ⟨rfl,hb⟩); (rw [IU.out]); (have K0:=Lib.hid (TS.start (pc:=#[.int .i64 p.kind,.int .u32 p.mine,.int .u32 p.AB,.int .u32 p.yours,.int .u32 p.seq,.int .u32 p.AV,.int .u32 p.stamp,.int .u32 p.echo,.complex .f64 p.zr p.zi,.slice Ab p.body.length cb]) H.out HS.out hB (hb.mono (by simp)))); (clear hb); (have hl1:BX.cell? ⟨g,1,none⟩ = some (.int .i64 2):=(AA K0.out.at_.blk 1).trans (congrArg (fun x => some (Value.int .i64 x)) FH.out)); (have hp0:BX.cell? ⟨w.heap.size,0,none⟩ = some (.int .i64 p.kind):=(AA K0.out.pb 0).trans rfl); (have hp1:BX.cell? ⟨w.heap.size,1,none⟩ = some (.int .u32 p.mine):=(AA K0.out.pb 1).trans rfl)) | (go_at_call 76; (refine (Dy K0.out.at_ AB p.mine).mono ?_); (rintro e w1 ⟨rfl,rfl⟩); (rw [Jz.out])) | ((with_reducible refine AO (N:=59) rfl ?_); (refine Dl (by rfl) ?_); (refine wpList_load_row rfl 27 (.tmp 5) rfl w.heap.size (by rfl) 27 _ (0,0) _ (by first | exact K0.out.pb | exact (K0.out.drewN hB _).pb) Try.underlying27 rfl (by kernel_rfl) ?_)) | (go_at_call 77; (refine (EE K0.out.at_ p (.slice Ab p.body.length cb)).mono ?_); (rintro e Ce ⟨rfl,hb⟩); (have hme:BI (L) p = false:=NU.out); (rw [hme]); (clear hme); (have K1:=Lib.hid (K0.out.sub hB hb)); (clear hb); (clear hl1 hp0 hp1)))
 exact Z19
theorem Td {w:World} {B g:Nat} {Ak Aj S:Nat → Prop} {L:Lk} {q o:Value} (h:At w B Ak Aj g L q o) (hok:L.Ok) (hS:∀ k,holds Ak Aj g k → S k) (hB:B ≤ w.heap.size) (AB:Int) (p:Bz) (Ab:Option Addr) (cb:Nat)
  (hb0:AB ≠ 0) (hbr:0 ≤ AB ∧ AB < 4294967296) (hpr:p.NT) (hck:Bg p.kind p.mine p.AB p.yours p.seq p.AV p.stamp p.echo p.zr p.zi p.body.length = 0)  (DT:L.phase = 2) (hag:Bo L AB p.mine = 0) (hmn:BI L p = true) (hpl:p.body.length ≤ 1000) {CY:Nat → Prop} (hR:(Kd.int .u8).R 5 w B CY (.slice Ab p.body.length cb) p.body) (hkp:∀ k,CY k → ¬ S k) (kn:Nat) (hkk:IntKind.u32.wrap (p.AV - L.base) = kn) (hkn:p.kind ≠ 1) (hkm:p.kind ≠ 2) (h1k:1 ≤ kn) (hks:(kn:Int) ≤ L.sent) :
  Calls Try.prog 34 #[.pointer (some ⟨g,0,none⟩),.int .u32 AB,.agg #[.int .i64 p.kind,.int .u32 p.mine,.int .u32 p.AB,.int .u32 p.yours,.int .u32 p.seq,.int .u32 p.AV,.int .u32 p.stamp,.int .u32 p.echo,.complex .f64 p.zr p.zi,.slice Ab p.body.length cb]] w fun e w' => EW w B S g (BL (CZ (L) kn)) true false false [] e w':=by
 have IQ:=Lib.hid (show (((w.alloc (.cells #[.int .i64 p.kind,.int .u32 p.mine,.int .u32 p.AB,.int .u32 p.yours,.int .u32 p.seq,.int .u32 p.AV,.int .u32 p.stamp,.int .u32 p.echo,.complex .f64 p.zr p.zi,.slice Ab p.body.length cb] 27)).alloc (.cells #[.bool false,.bool false,.bool false,.slice none 0 0] 56))).heap[w.heap.size]? = some (.cells #[.int .i64 p.kind,.int .u32 p.mine,.int .u32 p.AB,.int .u32 p.yours,.int .u32 p.seq,.int .u32 p.AV,.int .u32 p.stamp,.int .u32 p.echo,.complex .f64 p.zr p.zi,.slice Ab p.body.length cb] 27 (0,0)) from (Below.heap_alloc _ _ _ (by simp)).trans (heap_alloc_new w _))
 have H:=Lib.hid h
 have OK:=Lib.hid hok
 have HS:=Lib.hid hS
 have Em:=Lib.hid hpr
 have IU:=Lib.hid hck
 have hbz:(AB == 0) = false:=by simp [hb0]
 have FH:=Lib.hid DT
 clear DT
 have Jz:=Lib.hid hag
 clear hag
 clear hbr
 have NU:=Lib.hid hmn
 clear hmn
 have YJ:=Lib.hid hR
 have Oq:=Lib.hid hkp
 have VP:=Lib.hid hpl
 clear hR hkp hpl
 have HKK:=Lib.hid hkk
 clear hkk
 have hlb:=OK.out.sent
 have YK:=OK.out.queue
 have hd4:(p.kind == 1) = false:=by simp [hkn]
 have hd5:(p.kind == 2) = false:=by simp [hkm]
 clear hkn hkm
 have hd7:decide ((kn:Int) ≥ 1) = true:=by simp; omega
 have hd8:decide ((kn:Int) ≤ L.sent) = true:=by simp; omega
 have hw8:IntKind.u32.wrap L.sent = L.sent:=by rw [FZ]; omega
 clear h1k
 have Q3:=Lib.hid hks
 clear hks
 obtain ⟨A6,c6,hq6,GY⟩:=Kd.Gy h.queue
 subst hq6
 have YL:=Lib.hid (show kn ≤ L.queue.length by have:=Q3.out; omega)
 have hsl:=Po A6 L.queue.length c6 kn YL.out GY
 obtain ⟨A7,Pq⟩:∃ A,A = (if c6 = kn then A6 else A6.map (·.add (kn * bytes.sz))):=⟨_,rfl⟩
 rw [← Pq] at hsl
 have ay:=Lib.hid Pq
 clear Pq
 clear GY
 have hkq:=YL.out
 generalize VK:L.queue.length = qn at H hsl hkq hlb YK
 have S9:=Lib.hid VK
 clear VK
 have hc4:kn < 4294967296:=by omega
 clear h hok hS hpr hck hb0
 go_enter Try.func34,Try.ntmps34
 go_wp2_with fail
 refine BF 3 (fun C HC => ?_)
 go_wp2_with (first | ((with_reducible refine AO (N:=17) rfl ?_); (refine wpList_load_row rfl 27 (.tmp 5) rfl w.heap.size (by rfl) 27 #[.int .i64 p.kind,.int .u32 p.mine,.int .u32 p.AB,.int .u32 p.yours,.int .u32 p.seq,.int .u32 p.AV,.int .u32 p.stamp,.int .u32 p.echo,.complex .f64 p.zr p.zi,.slice Ab p.body.length cb] (0,0) _ IQ.out Try.underlying27 rfl (by kernel_rfl) ?_)) | (go_at_call 20; (refine (check_any _ _ _ _ _ _ _ _ _ _ _ _ _ _ Em.out.zr Em.out.zi).mono ?_); (rintro e BX ⟨rfl,hb⟩); (rw [IU.out]); (have K0:=Lib.hid (TS.start (pc:=#[.int .i64 p.kind,.int .u32 p.mine,.int .u32 p.AB,.int .u32 p.yours,.int .u32 p.seq,.int .u32 p.AV,.int .u32 p.stamp,.int .u32 p.echo,.complex .f64 p.zr p.zi,.slice Ab p.body.length cb]) H.out HS.out hB (hb.mono (by simp)))); (clear hb); (have hl1:BX.cell? ⟨g,1,none⟩ = some (.int .i64 2):=(AA K0.out.at_.blk 1).trans (congrArg (fun x => some (Value.int .i64 x)) FH.out)); (have hp0:BX.cell? ⟨w.heap.size,0,none⟩ = some (.int .i64 p.kind):=(AA K0.out.pb 0).trans rfl); (have hp1:BX.cell? ⟨w.heap.size,1,none⟩ = some (.int .u32 p.mine):=(AA K0.out.pb 1).trans rfl)) | (go_at_call 76; (refine (Dy K0.out.at_ AB p.mine).mono ?_); (rintro e w1 ⟨rfl,rfl⟩); (rw [Jz.out])) | ((with_reducible refine AO (N:=59) rfl ?_); (refine Dl (by rfl) ?_); (refine wpList_load_row rfl 27 (.tmp 5) rfl w.heap.size (by rfl) 27 _ (0,0) _ (by first | exact K0.out.pb | exact (K0.out.drewN hB _).pb) Try.underlying27 rfl (by kernel_rfl) ?_)) | (go_at_call 77; (refine (EE K0.out.at_ p (.slice Ab p.body.length cb)).mono ?_); (rintro e Ce ⟨rfl,hb⟩); (have hme:BI (L) p = true:=NU.out); (rw [hme]); (clear hme); (have K1:=Lib.hid (K0.out.sub hB hb)); (clear hb); (clear hl1 hp0 hp1)) | ((with_reducible refine gate_ (.store 4 (.tmp 62) (.const (.bool true))) rfl ?_); (refine AU (fun wz => TS w B S g #[.int .i64 p.kind,.int .u32 p.mine,.int .u32 p.AB,.int .u32 p.yours,.int .u32 p.seq,.int .u32 p.AV,.int .u32 p.stamp,.int .u32 p.echo,.complex .f64 p.zr p.zi,.slice Ab p.body.length cb] Ak Aj (fun _ => False) (L) (.slice A6 qn c6) o true false false (.slice none 0 0) [] wz) rfl rfl ⟨_,(by have hz1:World.cell? Ce ⟨w.heap.size + 1,0,none⟩ = some _:=(AA K1.out.tb 0).trans rfl; have hz2:=AL K1.out.tb 0; first | (go_simp; done) | (go_simp; rfl)),TS.FM K1.out hB 0 _ rfl⟩ (fun BZ hF => ?_)); (have K2:=Lib.hid hF); (clear hF); (have Jd:BZ.cell? ⟨g,9,none⟩ = some (.int .u32 L.expected):=(AA K2.out.at_.blk 9).trans rfl); (have hp0:BZ.cell? ⟨w.heap.size,0,none⟩ = some (.int .i64 p.kind):=(AA K2.out.pb 0).trans rfl); (have Oo:BZ.cell? ⟨w.heap.size,4,none⟩ = some (.int .u32 p.seq):=(AA K2.out.pb 4).trans rfl)))
 refine wp_goto ?_
 refine Jump.goto HC.out rfl ?_
 go_wp2_with fail
 go_quiet (fail)
 rename Nat => Gj
 clear Jd hp0 Oo
 have Dt:BZ.cell? ⟨g,8,none⟩ = some (.int .u32 L.base):=(AA K2.out.at_.blk 8).trans rfl
 have GY:BZ.cell? ⟨g,6,none⟩ = some ((.slice A6 qn c6)):=(AA K2.out.at_.blk 6).trans rfl
 have Fa:BZ.cell? ⟨g,7,none⟩ = some (.int .i64 L.sent):=(AA K2.out.at_.blk 7).trans rfl
 have VQ:BZ.cell? ⟨w.heap.size,5,none⟩ = some (.int .u32 p.AV):=(AA K2.out.pb 5).trans rfl
 have hp0:BZ.cell? ⟨w.heap.size,0,none⟩ = some (.int .i64 p.kind):=(AA K2.out.pb 0).trans rfl
 go_wp2_with fail
 go_quiet ((go_at_call 79; refine (FY _ _ _).mono fun _ _ hq => ⟨hq.1.trans (congrArg (fun x => Ending.returned (.int .u32 x)) HKK.out),_,hq.2.symm⟩))
 rename Nat => GR
 go_wp2_with (first | ((with_reducible refine gate_ (.store 45 (.tmp 162) (.tmp 160)) rfl ?_); (refine AU (fun wz => TS w B S g #[.int .i64 p.kind,.int .u32 p.mine,.int .u32 p.AB,.int .u32 p.yours,.int .u32 p.seq,.int .u32 p.AV,.int .u32 p.stamp,.int .u32 p.echo,.complex .f64 p.zr p.zi,.slice Ab p.body.length cb] Ak Aj (fun _ => False) ({ L with queue:=(L).queue.drop kn }) (.slice A7 (qn - kn) (c6 - kn)) o true false false (.slice none 0 0) [] wz) rfl rfl ⟨_,(by have hz1:World.cell? BZ ⟨g,6,none⟩ = some _:=(AA K2.out.at_.blk 6).trans rfl; have hz2:=AL K2.out.at_.blk 6; first | (go_simp; done) | (go_simp; rfl)),TS.cut (K2.out.drewN hB (Gj + GR)) hB rfl YL.out ay.out⟩ (fun DK hF => ?_)); (have K3:=Lib.hid hF); (clear hF); (clear Dt GY Fa VQ hp0); (have Dt:DK.cell? ⟨g,8,none⟩ = some (.int .u32 L.base):=(AA K3.out.at_.blk 8).trans rfl); (have Fa:DK.cell? ⟨g,7,none⟩ = some (.int .i64 L.sent):=(AA K3.out.at_.blk 7).trans rfl); (have hp0:DK.cell? ⟨w.heap.size,0,none⟩ = some (.int .i64 p.kind):=(AA K3.out.pb 0).trans rfl)) | ((with_reducible refine gate_ (.store 24 (.tmp 170) (.tmp 168)) rfl ?_); (have hT:TS w B S g #[.int .i64 p.kind,.int .u32 p.mine,.int .u32 p.AB,.int .u32 p.yours,.int .u32 p.seq,.int .u32 p.AV,.int .u32 p.stamp,.int .u32 p.echo,.complex .f64 p.zr p.zi,.slice Ab p.body.length cb] Ak Aj (fun _ => False) ({ L with queue:=(L).queue.drop kn,base:=IntKind.u32.wrap (L.base + kn) }) (.slice A7 (qn - kn) (c6 - kn)) o true false false (.slice none 0 0) [] (World.setCell DK ⟨g,8,none⟩ (.int .u32 (IntKind.u32.wrap (L.base + kn)))):=TS.ET K3.out hB 8 (.int .u32 (IntKind.u32.wrap (L.base + kn))) rfl rfl rfl); (refine AU (fun wz => TS w B S g #[.int .i64 p.kind,.int .u32 p.mine,.int .u32 p.AB,.int .u32 p.yours,.int .u32 p.seq,.int .u32 p.AV,.int .u32 p.stamp,.int .u32 p.echo,.complex .f64 p.zr p.zi,.slice Ab p.body.length cb] Ak Aj (fun _ => False) ({ L with queue:=(L).queue.drop kn,base:=IntKind.u32.wrap (L.base + kn) }) (.slice A7 (qn - kn) (c6 - kn)) o true false false (.slice none 0 0) [] wz) rfl rfl ⟨_,(by have hz1:World.cell? DK ⟨g,8,none⟩ = some _:=(AA K3.out.at_.blk 8).trans rfl; have hz2:=AL K3.out.at_.blk 8; first | (go_simp; done) | (go_simp; rfl)),hT⟩ (fun EL hF => ?_)); (have K4:=Lib.hid hF); (clear hF hT); (clear Dt Fa hp0); (have Fa:EL.cell? ⟨g,7,none⟩ = some (.int .i64 L.sent):=(AA K4.out.at_.blk 7).trans rfl); (have hp0:EL.cell? ⟨w.heap.size,0,none⟩ = some (.int .i64 p.kind):=(AA K4.out.pb 0).trans rfl)) | ((with_reducible refine gate_ (.store 3 (.tmp 179) (.tmp 177)) rfl ?_); (have hT:TS w B S g #[.int .i64 p.kind,.int .u32 p.mine,.int .u32 p.AB,.int .u32 p.yours,.int .u32 p.seq,.int .u32 p.AV,.int .u32 p.stamp,.int .u32 p.echo,.complex .f64 p.zr p.zi,.slice Ab p.body.length cb] Ak Aj (fun _ => False) ({ L with queue:=(L).queue.drop kn,base:=IntKind.u32.wrap (L.base + kn),sent:=L.sent - kn }) (.slice A7 (qn - kn) (c6 - kn)) o true false false (.slice none 0 0) [] (World.setCell EL ⟨g,7,none⟩ (.int .i64 (L.sent - kn))):=TS.ET K4.out hB 7 (.int .i64 (L.sent - kn)) rfl rfl rfl); (refine AU (fun wz => TS w B S g #[.int .i64 p.kind,.int .u32 p.mine,.int .u32 p.AB,.int .u32 p.yours,.int .u32 p.seq,.int .u32 p.AV,.int .u32 p.stamp,.int .u32 p.echo,.complex .f64 p.zr p.zi,.slice Ab p.body.length cb] Ak Aj (fun _ => False) ({ L with queue:=(L).queue.drop kn,base:=IntKind.u32.wrap (L.base + kn),sent:=L.sent - kn }) (.slice A7 (qn - kn) (c6 - kn)) o true false false (.slice none 0 0) [] wz) rfl rfl ⟨_,(by have hz1:World.cell? EL ⟨g,7,none⟩ = some _:=(AA K4.out.at_.blk 7).trans rfl; have hz2:=AL K4.out.at_.blk 7; first | (go_simp; done) | (go_simp; rfl)),hT⟩ (fun Ea hF => ?_)); (have K5:=Lib.hid hF); (clear hF hT); (clear Fa hp0); (have hp0:Ea.cell? ⟨w.heap.size,0,none⟩ = some (.int .i64 p.kind):=(AA K5.out.pb 0).trans rfl)) | ((with_reducible refine gate_ (.store 3 (.tmp 182) (.const (.int .i64 0))) rfl ?_); (have hT:TS w B S g #[.int .i64 p.kind,.int .u32 p.mine,.int .u32 p.AB,.int .u32 p.yours,.int .u32 p.seq,.int .u32 p.AV,.int .u32 p.stamp,.int .u32 p.echo,.complex .f64 p.zr p.zi,.slice Ab p.body.length cb] Ak Aj (fun _ => False) (CZ (L) kn) (.slice A7 (qn - kn) (c6 - kn)) o true false false (.slice none 0 0) [] (World.setCell Ea ⟨g,10,none⟩ (.int .i64 0)):=TS.ET K5.out hB 10 (.int .i64 0) rfl rfl rfl); (refine AU (fun wz => TS w B S g #[.int .i64 p.kind,.int .u32 p.mine,.int .u32 p.AB,.int .u32 p.yours,.int .u32 p.seq,.int .u32 p.AV,.int .u32 p.stamp,.int .u32 p.echo,.complex .f64 p.zr p.zi,.slice Ab p.body.length cb] Ak Aj (fun _ => False) (CZ (L) kn) (.slice A7 (qn - kn) (c6 - kn)) o true false false (.slice none 0 0) [] wz) rfl rfl ⟨_,(by have hz1:World.cell? Ea ⟨g,10,none⟩ = some _:=(AA K5.out.at_.blk 10).trans rfl; have hz2:=AL K5.out.at_.blk 10; first | (go_simp; done) | (go_simp; rfl)),hT⟩ (fun Jv hF => ?_)); (have K6:=Lib.hid hF); (clear hF hT); (clear hp0); (have hp0:Jv.cell? ⟨w.heap.size,0,none⟩ = some (.int .i64 p.kind):=(AA K6.out.pb 0).trans rfl)) | (go_at_call 74; (refine (MM K6.out.at_ (Jy (OK.out) Q3.out) (Nat.le_trans hB K6.out.kept.1)).mono ?_); (rintro e Jb ⟨rfl,hE⟩); (obtain ⟨TY,YF,hF⟩:=TS.I8 K6.out hB hE); (clear hE); (have K7:=Lib.hid hF); (clear hF); (clear hp0); (have hp0:Jb.cell? ⟨w.heap.size,0,none⟩ = some (.int .i64 p.kind):=(AA K7.out.pb 0).trans rfl)))
 refine wp_label ?_
 exact Z21
theorem Z30 {p:Prop} (h:p:=by
 have VQ:BZ.cell? ⟨w.heap.size,5,none⟩ = some (.int .u32 p.AV):=(AA K2.out.pb 5).trans rfl
 have hp0:BZ.cell? ⟨w.heap.size,0,none⟩ = some (.int .i64 p.kind):=(AA K2.out.pb 0).trans rfl
 go_wp2_with fail
 go_quiet ((go_at_call 79; refine (FY _ _ _).mono fun _ _ hq => ⟨hq.1.trans (congrArg (fun x => Ending.returned (.int .u32 x)) HKK.out),_,hq.2.symm⟩))
 rename Nat => GR
 go_wp2_with fail
 refine wp_label ?_
 exact Z12):p:=h
theorem Tf {w:World} {B g:Nat} {Ak Aj S:Nat → Prop} {L:Lk} {q o:Value} (h:At w B Ak Aj g L q o) (hok:L.Ok) (hS:∀ k,holds Ak Aj g k → S k) (hB:B ≤ w.heap.size) (AB:Int) (p:Bz) (Ab:Option Addr) (cb:Nat)
  (hb0:AB ≠ 0) (hbr:0 ≤ AB ∧ AB < 4294967296) (hpr:p.NT) (hck:Bg p.kind p.mine p.AB p.yours p.seq p.AV p.stamp p.echo p.zr p.zi p.body.length = 0)  (DT:L.phase = 2) (hag:Bo L AB p.mine = 0) (hmn:BI L p = true) (hpl:p.body.length ≤ 1000) {CY:Nat → Prop} (hR:(Kd.int .u8).R 5 w B CY (.slice Ab p.body.length cb) p.body) (hkp:∀ k,CY k → ¬ S k) (kn:Nat) (hkk:IntKind.u32.wrap (p.AV - L.base) = kn) (hkn:p.kind ≠ 1) (hkm:p.kind ≠ 2) (h1k:kn = 0) :
  Calls Try.prog 34 #[.pointer (some ⟨g,0,none⟩),.int .u32 AB,.agg #[.int .i64 p.kind,.int .u32 p.mine,.int .u32 p.AB,.int .u32 p.yours,.int .u32 p.seq,.int .u32 p.AV,.int .u32 p.stamp,.int .u32 p.echo,.complex .f64 p.zr p.zi,.slice Ab p.body.length cb]] w fun e w' => EW w B S g (L) true false false [] e w':=by
 have IQ:=Lib.hid (show (((w.alloc (.cells #[.int .i64 p.kind,.int .u32 p.mine,.int .u32 p.AB,.int .u32 p.yours,.int .u32 p.seq,.int .u32 p.AV,.int .u32 p.stamp,.int .u32 p.echo,.complex .f64 p.zr p.zi,.slice Ab p.body.length cb] 27)).alloc (.cells #[.bool false,.bool false,.bool false,.slice none 0 0] 56))).heap[w.heap.size]? = some (.cells #[.int .i64 p.kind,.int .u32 p.mine,.int .u32 p.AB,.int .u32 p.yours,.int .u32 p.seq,.int .u32 p.AV,.int .u32 p.stamp,.int .u32 p.echo,.complex .f64 p.zr p.zi,.slice Ab p.body.length cb] 27 (0,0)) from (Below.heap_alloc _ _ _ (by simp)).trans (heap_alloc_new w _))
 have H:=Lib.hid h
 have OK:=Lib.hid hok
 have HS:=Lib.hid hS
 have Em:=Lib.hid hpr
 have IU:=Lib.hid hck
 have hbz:(AB == 0) = false:=by simp [hb0]
 have FH:=Lib.hid DT
 clear DT
 have Jz:=Lib.hid hag
 clear hag
 clear hbr
 have NU:=Lib.hid hmn
 clear hmn
 have YJ:=Lib.hid hR
 have Oq:=Lib.hid hkp
 have VP:=Lib.hid hpl
 clear hR hkp hpl
 have HKK:=Lib.hid hkk
 clear hkk
 have hlb:=OK.out.sent
 have YK:=OK.out.queue
 have hd4:(p.kind == 1) = false:=by simp [hkn]
 have hd5:(p.kind == 2) = false:=by simp [hkm]
 clear hkn hkm
 have hd7:decide ((kn:Int) ≥ 1) = false:=by simp; omega
 clear h1k
 clear h hok hS hpr hck hb0
 go_enter Try.func34,Try.ntmps34
 go_wp2_with fail
 refine BF 3 (fun C HC => ?_)
 go_wp2_with (first | ((with_reducible refine AO (N:=17) rfl ?_); (refine wpList_load_row rfl 27 (.tmp 5) rfl w.heap.size (by rfl) 27 #[.int .i64 p.kind,.int .u32 p.mine,.int .u32 p.AB,.int .u32 p.yours,.int .u32 p.seq,.int .u32 p.AV,.int .u32 p.stamp,.int .u32 p.echo,.complex .f64 p.zr p.zi,.slice Ab p.body.length cb] (0,0) _ IQ.out Try.underlying27 rfl (by kernel_rfl) ?_)) | (go_at_call 20; (refine (check_any _ _ _ _ _ _ _ _ _ _ _ _ _ _ Em.out.zr Em.out.zi).mono ?_); (rintro e BX ⟨rfl,hb⟩); (rw [IU.out]); (have K0:=Lib.hid (TS.start (pc:=#[.int .i64 p.kind,.int .u32 p.mine,.int .u32 p.AB,.int .u32 p.yours,.int .u32 p.seq,.int .u32 p.AV,.int .u32 p.stamp,.int .u32 p.echo,.complex .f64 p.zr p.zi,.slice Ab p.body.length cb]) H.out HS.out hB (hb.mono (by simp)))); (clear hb); (have hl1:BX.cell? ⟨g,1,none⟩ = some (.int .i64 2):=(AA K0.out.at_.blk 1).trans (congrArg (fun x => some (Value.int .i64 x)) FH.out)); (have hp0:BX.cell? ⟨w.heap.size,0,none⟩ = some (.int .i64 p.kind):=(AA K0.out.pb 0).trans rfl); (have hp1:BX.cell? ⟨w.heap.size,1,none⟩ = some (.int .u32 p.mine):=(AA K0.out.pb 1).trans rfl)) | (go_at_call 76; (refine (Dy K0.out.at_ AB p.mine).mono ?_); (rintro e w1 ⟨rfl,rfl⟩); (rw [Jz.out])) | ((with_reducible refine AO (N:=59) rfl ?_); (refine Dl (by rfl) ?_); (refine wpList_load_row rfl 27 (.tmp 5) rfl w.heap.size (by rfl) 27 _ (0,0) _ (by first | exact K0.out.pb | exact (K0.out.drewN hB _).pb) Try.underlying27 rfl (by kernel_rfl) ?_)) | (go_at_call 77; (refine (EE K0.out.at_ p (.slice Ab p.body.length cb)).mono ?_); (rintro e Ce ⟨rfl,hb⟩); (have hme:BI (L) p = true:=NU.out); (rw [hme]); (clear hme); (have K1:=Lib.hid (K0.out.sub hB hb)); (clear hb); (clear hl1 hp0 hp1)) | ((with_reducible refine gate_ (.store 4 (.tmp 62) (.const (.bool true))) rfl ?_); (refine AU (fun wz => TS w B S g #[.int .i64 p.kind,.int .u32 p.mine,.int .u32 p.AB,.int .u32 p.yours,.int .u32 p.seq,.int .u32 p.AV,.int .u32 p.stamp,.int .u32 p.echo,.complex .f64 p.zr p.zi,.slice Ab p.body.length cb] Ak Aj (fun _ => False) (L) q o true false false (.slice none 0 0) [] wz) rfl rfl ⟨_,(by have hz1:World.cell? Ce ⟨w.heap.size + 1,0,none⟩ = some _:=(AA K1.out.tb 0).trans rfl; have hz2:=AL K1.out.tb 0; first | (go_simp; done) | (go_simp; rfl)),TS.FM K1.out hB 0 _ rfl⟩ (fun BZ hF => ?_)); (have K2:=Lib.hid hF); (clear hF); (have Jd:BZ.cell? ⟨g,9,none⟩ = some (.int .u32 L.expected):=(AA K2.out.at_.blk 9).trans rfl); (have hp0:BZ.cell? ⟨w.heap.size,0,none⟩ = some (.int .i64 p.kind):=(AA K2.out.pb 0).trans rfl); (have Oo:BZ.cell? ⟨w.heap.size,4,none⟩ = some (.int .u32 p.seq):=(AA K2.out.pb 4).trans rfl)))
 refine wp_goto ?_
 refine Jump.goto HC.out rfl ?_
 go_wp2_with fail
 go_quiet (fail)
 rename Nat => Gj
 clear Jd hp0 Oo
 have Dt:BZ.cell? ⟨g,8,none⟩ = some (.int .u32 L.base):=(AA K2.out.at_.blk 8).trans rfl
 exact Z30
theorem Ti {w:World} {B g:Nat} {Ak Aj S:Nat → Prop} {L:Lk} {q o:Value} (h:At w B Ak Aj g L q o) (hok:L.Ok) (hS:∀ k,holds Ak Aj g k → S k) (hB:B ≤ w.heap.size) (AB:Int) (p:Bz) (Ab:Option Addr) (cb:Nat)
  (hb0:AB ≠ 0) (hbr:0 ≤ AB ∧ AB < 4294967296) (hpr:p.NT) (hck:Bg p.kind p.mine p.AB p.yours p.seq p.AV p.stamp p.echo p.zr p.zi p.body.length = 0)  (DT:L.phase = 2) (hag:Bo L AB p.mine = 0) (hmn:BI L p = true) (hpl:p.body.length ≤ 1000) {CY:Nat → Prop} (hR:(Kd.int .u8).R 5 w B CY (.slice Ab p.body.length cb) p.body) (hkp:∀ k,CY k → ¬ S k) (kn:Nat) (hkk:IntKind.u32.wrap (p.AV - L.base) = kn) (hkn:p.kind ≠ 1) (hkm:p.kind ≠ 2) (h1k:1 ≤ kn) (hks:L.sent < (kn:Int)) :
  Calls Try.prog 34 #[.pointer (some ⟨g,0,none⟩),.int .u32 AB,.agg #[.int .i64 p.kind,.int .u32 p.mine,.int .u32 p.AB,.int .u32 p.yours,.int .u32 p.seq,.int .u32 p.AV,.int .u32 p.stamp,.int .u32 p.echo,.complex .f64 p.zr p.zi,.slice Ab p.body.length cb]] w fun e w' => EW w B S g (L) true false false [] e w':=by
 have IQ:=Lib.hid (show (((w.alloc (.cells #[.int .i64 p.kind,.int .u32 p.mine,.int .u32 p.AB,.int .u32 p.yours,.int .u32 p.seq,.int .u32 p.AV,.int .u32 p.stamp,.int .u32 p.echo,.complex .f64 p.zr p.zi,.slice Ab p.body.length cb] 27)).alloc (.cells #[.bool false,.bool false,.bool false,.slice none 0 0] 56))).heap[w.heap.size]? = some (.cells #[.int .i64 p.kind,.int .u32 p.mine,.int .u32 p.AB,.int .u32 p.yours,.int .u32 p.seq,.int .u32 p.AV,.int .u32 p.stamp,.int .u32 p.echo,.complex .f64 p.zr p.zi,.slice Ab p.body.length cb] 27 (0,0)) from (Below.heap_alloc _ _ _ (by simp)).trans (heap_alloc_new w _))
 have H:=Lib.hid h
 have OK:=Lib.hid hok
 have HS:=Lib.hid hS
 have Em:=Lib.hid hpr
 have IU:=Lib.hid hck
 have hbz:(AB == 0) = false:=by simp [hb0]
 have FH:=Lib.hid DT
 clear DT
 have Jz:=Lib.hid hag
 clear hag
 clear hbr
 have NU:=Lib.hid hmn
 clear hmn
 have YJ:=Lib.hid hR
 have Oq:=Lib.hid hkp
 have VP:=Lib.hid hpl
 clear hR hkp hpl
 have HKK:=Lib.hid hkk
 clear hkk
 have hlb:=OK.out.sent
 have YK:=OK.out.queue
 have hd4:(p.kind == 1) = false:=by simp [hkn]
 have hd5:(p.kind == 2) = false:=by simp [hkm]
 clear hkn hkm
 have hd7:decide ((kn:Int) ≥ 1) = true:=by simp; omega
 have hd8:decide ((kn:Int) ≤ L.sent) = false:=by simp; omega
 have hw8:IntKind.u32.wrap L.sent = L.sent:=by rw [FZ]; omega
 clear h1k
 have Q3:=Lib.hid hks
 clear hks
 clear h hok hS hpr hck hb0
 go_enter Try.func34,Try.ntmps34
 go_wp2_with fail
 refine BF 3 (fun C HC => ?_)
 go_wp2_with (first | ((with_reducible refine AO (N:=17) rfl ?_); (refine wpList_load_row rfl 27 (.tmp 5) rfl w.heap.size (by rfl) 27 #[.int .i64 p.kind,.int .u32 p.mine,.int .u32 p.AB,.int .u32 p.yours,.int .u32 p.seq,.int .u32 p.AV,.int .u32 p.stamp,.int .u32 p.echo,.complex .f64 p.zr p.zi,.slice Ab p.body.length cb] (0,0) _ IQ.out Try.underlying27 rfl (by kernel_rfl) ?_)) | (go_at_call 20; (refine (check_any _ _ _ _ _ _ _ _ _ _ _ _ _ _ Em.out.zr Em.out.zi).mono ?_); (rintro e BX ⟨rfl,hb⟩); (rw [IU.out]); (have K0:=Lib.hid (TS.start (pc:=#[.int .i64 p.kind,.int .u32 p.mine,.int .u32 p.AB,.int .u32 p.yours,.int .u32 p.seq,.int .u32 p.AV,.int .u32 p.stamp,.int .u32 p.echo,.complex .f64 p.zr p.zi,.slice Ab p.body.length cb]) H.out HS.out hB (hb.mono (by simp)))); (clear hb); (have hl1:BX.cell? ⟨g,1,none⟩ = some (.int .i64 2):=(AA K0.out.at_.blk 1).trans (congrArg (fun x => some (Value.int .i64 x)) FH.out)); (have hp0:BX.cell? ⟨w.heap.size,0,none⟩ = some (.int .i64 p.kind):=(AA K0.out.pb 0).trans rfl); (have hp1:BX.cell? ⟨w.heap.size,1,none⟩ = some (.int .u32 p.mine):=(AA K0.out.pb 1).trans rfl)) | (go_at_call 76; (refine (Dy K0.out.at_ AB p.mine).mono ?_); (rintro e w1 ⟨rfl,rfl⟩); (rw [Jz.out])) | ((with_reducible refine AO (N:=59) rfl ?_); (refine Dl (by rfl) ?_); (refine wpList_load_row rfl 27 (.tmp 5) rfl w.heap.size (by rfl) 27 _ (0,0) _ (by first | exact K0.out.pb | exact (K0.out.drewN hB _).pb) Try.underlying27 rfl (by kernel_rfl) ?_)) | (go_at_call 77; (refine (EE K0.out.at_ p (.slice Ab p.body.length cb)).mono ?_); (rintro e Ce ⟨rfl,hb⟩); (have hme:BI (L) p = true:=NU.out); (rw [hme]); (clear hme); (have K1:=Lib.hid (K0.out.sub hB hb)); (clear hb); (clear hl1 hp0 hp1)) | ((with_reducible refine gate_ (.store 4 (.tmp 62) (.const (.bool true))) rfl ?_); (refine AU (fun wz => TS w B S g #[.int .i64 p.kind,.int .u32 p.mine,.int .u32 p.AB,.int .u32 p.yours,.int .u32 p.seq,.int .u32 p.AV,.int .u32 p.stamp,.int .u32 p.echo,.complex .f64 p.zr p.zi,.slice Ab p.body.length cb] Ak Aj (fun _ => False) (L) q o true false false (.slice none 0 0) [] wz) rfl rfl ⟨_,(by have hz1:World.cell? Ce ⟨w.heap.size + 1,0,none⟩ = some _:=(AA K1.out.tb 0).trans rfl; have hz2:=AL K1.out.tb 0; first | (go_simp; done) | (go_simp; rfl)),TS.FM K1.out hB 0 _ rfl⟩ (fun BZ hF => ?_)); (have K2:=Lib.hid hF); (clear hF); (have Jd:BZ.cell? ⟨g,9,none⟩ = some (.int .u32 L.expected):=(AA K2.out.at_.blk 9).trans rfl); (have hp0:BZ.cell? ⟨w.heap.size,0,none⟩ = some (.int .i64 p.kind):=(AA K2.out.pb 0).trans rfl); (have Oo:BZ.cell? ⟨w.heap.size,4,none⟩ = some (.int .u32 p.seq):=(AA K2.out.pb 4).trans rfl)))
 refine wp_goto ?_
 refine Jump.goto HC.out rfl ?_
 go_wp2_with fail
 go_quiet (fail)
 rename Nat => Gj
 clear Jd hp0 Oo
 have Dt:BZ.cell? ⟨g,8,none⟩ = some (.int .u32 L.base):=(AA K2.out.at_.blk 8).trans rfl
 have Fa:BZ.cell? ⟨g,7,none⟩ = some (.int .i64 L.sent):=(AA K2.out.at_.blk 7).trans rfl
 exact Z30
end Go.Proofs.Ytnkkgofpifhoeaa.Lk
end
