/- What the laws of a pair are proved with: links and pairs in memory, what their methods do, what a pair keeps to (part 15). -/
import Derived.Test.YtnkkgofpifhoeaaPG14
set_option linter.unusedSimpArgs false
set_option linter.unusedVariables false
set_option maxRecDepth 100000
set_option maxHeartbeats 16000000
namespace Go.Proofs.Ytnkkgofpifhoeaa
theorem Z6 {p:Prop} (h:p:=by
 refine wp_goto ?_
 refine Jump.goto HC.out rfl ?_
 go_wp2_with (first | ((with_reducible refine AV (N:=207) rfl ?_); (refine wpList_load_row rfl 56 (.tmp 6) rfl (w.heap.size + 1) (by rfl) 56 _ (0,0) _ (by first | exact K0.out.tb | exact (K0.out.drewN hB _).tb) Try.underlying56 rfl (by kernel_rfl) ?_)) | ((with_reducible refine gate_ (.store 56 (.tmp 6) (.tmp 207)) rfl ?_); (refine Ae rfl rfl 56 (.tmp 6) (.tmp 207) rfl (w.heap.size + 1) _ rfl rfl 56 _ (by first | exact K0.out.tb | exact (K0.out.drewN hB _).tb) (by kernel_rfl) rfl (by kernel_rfl) ?_); (intro Bl EJ EF); (have hF:=TS.Ip (by first | exact K0.out | exact K0.out.drewN hB _ | exact K0.out.drew hB) hB EF EJ (by first | exact K0.out.Et | exact (K0.out.drewN hB _).Et) (by first | exact K0.out.okb | exact (K0.out.drewN hB _).okb)); (have K1:=Lib.hid hF); (clear hF EJ EF)))
 refine Jump.ret ?_
 refine bodyPost_ret ?_ rfl (K1.out.ends)
 exact Ag Try.results34 _ _ rfl rfl (run_loadVar_row (P:=Try.prog) _ (w.heap.size + 1) 56 56 _ (0,0) _ K1.out.tb Try.underlying56 rfl (by kernel_rfl))):p:=h
theorem pR {p:Prop} (h:p:=by
 go_wp2_with (first | ((with_reducible refine AV (N:=207) rfl ?_); (refine wpList_load_row rfl 56 (.tmp 6) rfl (w.heap.size + 1) (by rfl) 56 _ (0,0) _ (by first | exact K9.out.tb | exact (K9.out.drewN hB _).tb) Try.underlying56 rfl (by kernel_rfl) ?_)) | ((with_reducible refine gate_ (.store 56 (.tmp 6) (.tmp 207)) rfl ?_); (refine Ae rfl rfl 56 (.tmp 6) (.tmp 207) rfl (w.heap.size + 1) _ rfl rfl 56 _ (by first | exact K9.out.tb | exact (K9.out.drewN hB _).tb) (by kernel_rfl) rfl (by kernel_rfl) ?_); (intro QO EJ EF); (have hF:=TS.Ip (by first | exact K9.out | exact K9.out.drewN hB _ | exact K9.out.drew hB) hB EF EJ (by first | exact K9.out.Et | exact (K9.out.drewN hB _).Et) (by first | exact K9.out.okb | exact (K9.out.drewN hB _).okb)); (have K10:=Lib.hid hF); (clear hF EJ EF)))
 refine Jump.ret ?_
 refine bodyPost_ret ?_ rfl (K10.out.ends)
 exact Ag Try.results34 _ _ rfl rfl (run_loadVar_row (P:=Try.prog) _ (w.heap.size + 1) 56 56 _ (0,0) _ K10.out.tb Try.underlying56 rfl (by kernel_rfl))):p:=h
theorem YG {p:Prop} (h:p:=by
 go_wp2_with (first | ((with_reducible refine AV (N:=207) rfl ?_); (refine wpList_load_row rfl 56 (.tmp 6) rfl (w.heap.size + 1) (by rfl) 56 _ (0,0) _ (by first | exact K7.out.tb | exact (K7.out.drewN hB _).tb) Try.underlying56 rfl (by kernel_rfl) ?_)) | ((with_reducible refine gate_ (.store 56 (.tmp 6) (.tmp 207)) rfl ?_); (refine Ae rfl rfl 56 (.tmp 6) (.tmp 207) rfl (w.heap.size + 1) _ rfl rfl 56 _ (by first | exact K7.out.tb | exact (K7.out.drewN hB _).tb) (by kernel_rfl) rfl (by kernel_rfl) ?_); (intro NK EJ EF); (have hF:=TS.Ip (by first | exact K7.out | exact K7.out.drewN hB _ | exact K7.out.drew hB) hB EF EJ (by first | exact K7.out.Et | exact (K7.out.drewN hB _).Et) (by first | exact K7.out.okb | exact (K7.out.drewN hB _).okb)); (have K8:=Lib.hid hF); (clear hF EJ EF)))
 refine Jump.ret ?_
 refine bodyPost_ret ?_ rfl (K8.out.ends)
 exact Ag Try.results34 _ _ rfl rfl (run_loadVar_row (P:=Try.prog) _ (w.heap.size + 1) 56 56 _ (0,0) _ K8.out.tb Try.underlying56 rfl (by kernel_rfl))):p:=h
theorem pU {p:Prop} (h:p:=by
 go_wp2_with (first | ((with_reducible refine AV (N:=207) rfl ?_); (refine wpList_load_row rfl 56 (.tmp 6) rfl (w.heap.size + 1) (by rfl) 56 _ (0,0) _ (by first | exact K2.out.tb | exact (K2.out.drewN hB _).tb) Try.underlying56 rfl (by kernel_rfl) ?_)) | ((with_reducible refine gate_ (.store 56 (.tmp 6) (.tmp 207)) rfl ?_); (refine Ae rfl rfl 56 (.tmp 6) (.tmp 207) rfl (w.heap.size + 1) _ rfl rfl 56 _ (by first | exact K2.out.tb | exact (K2.out.drewN hB _).tb) (by kernel_rfl) rfl (by kernel_rfl) ?_); (intro CJ EJ EF); (have hF:=TS.Ip (by first | exact K2.out | exact K2.out.drewN hB _ | exact K2.out.drew hB) hB EF EJ (by first | exact K2.out.Et | exact (K2.out.drewN hB _).Et) (by first | exact K2.out.okb | exact (K2.out.drewN hB _).okb)); (have K3:=Lib.hid hF); (clear hF EJ EF)))
 refine Jump.ret ?_
 refine bodyPost_ret ?_ rfl (K3.out.ends)
 exact Ag Try.results34 _ _ rfl rfl (run_loadVar_row (P:=Try.prog) _ (w.heap.size + 1) 56 56 _ (0,0) _ K3.out.tb Try.underlying56 rfl (by kernel_rfl))):p:=h
theorem pV {p:Prop} (h:p:=by
 refine wp_goto ?_
 refine Jump.goto HC.out rfl ?_
 go_wp2_with (first | ((with_reducible refine AV (N:=207) rfl ?_); (refine wpList_load_row rfl 56 (.tmp 6) rfl (w.heap.size + 1) (by rfl) 56 _ (0,0) _ (by first | exact K1.out.tb | exact (K1.out.drewN hB _).tb) Try.underlying56 rfl (by kernel_rfl) ?_)) | ((with_reducible refine gate_ (.store 56 (.tmp 6) (.tmp 207)) rfl ?_); (refine Ae rfl rfl 56 (.tmp 6) (.tmp 207) rfl (w.heap.size + 1) _ rfl rfl 56 _ (by first | exact K1.out.tb | exact (K1.out.drewN hB _).tb) (by kernel_rfl) rfl (by kernel_rfl) ?_); (intro BG EJ EF); (have hF:=TS.Ip (by first | exact K1.out | exact K1.out.drewN hB _ | exact K1.out.drew hB) hB EF EJ (by first | exact K1.out.Et | exact (K1.out.drewN hB _).Et) (by first | exact K1.out.okb | exact (K1.out.drewN hB _).okb)); (have K2:=Lib.hid hF); (clear hF EJ EF)))
 refine Jump.ret ?_
 refine bodyPost_ret ?_ rfl (K2.out.ends)
 exact Ag Try.results34 _ _ rfl rfl (run_loadVar_row (P:=Try.prog) _ (w.heap.size + 1) 56 56 _ (0,0) _ K2.out.tb Try.underlying56 rfl (by kernel_rfl))):p:=h
end Go.Proofs.Ytnkkgofpifhoeaa
section
namespace Go.Proofs.Ytnkkgofpifhoeaa.Lk
open Go.RowKit Go.Proofs.Ytnkkgofpifhoeaa.Base Go.Proofs.Ytnkkgofpifhoeaa.Steps Go.Proofs.Ytnkkgofpifhoeaa.Pk Go.Proofs.Ytnkkgofpifhoeaa.Zv Go.Proofs.YtnkkgofpifhoeaaW.PrintWords Go.Proofs.YtnkkgofpifhoeaaW.PrintLast
theorem RI {w:World} {B g:Nat} {Af Ac S:Nat → Prop} {L:Lk} {q o:Value} (h:At w B Af Ac g L q o) (hok:L.Ok) (hS:∀ k,holds Af Ac g k → S k) (hB:B ≤ w.heap.size) (AL:Int) (p:BJ) (Ab:Option Addr) (cb:Nat)
  (hb0:AL ≠ 0) (hbr:0 ≤ AL ∧ AL < 4294967296) (hpr:p.Jw) (hck:Ah p.kind p.mine p.AL p.yours p.seq p.AX p.stamp p.echo p.zr p.zi p.body.length = 0)  (Ci:L.phase = 0) :
  Calls Try.prog 34 #[.pointer (some ⟨g,0,none⟩),.int .u32 AL,.agg #[.int .i64 p.kind,.int .u32 p.mine,.int .u32 p.AL,.int .u32 p.yours,.int .u32 p.seq,.int .u32 p.AX,.int .u32 p.stamp,.int .u32 p.echo,.complex .f64 p.zr p.zi,.slice Ab p.body.length cb]] w fun e w' => Ei w B S g (L) false false false [] e w':=by
 have GU:=Lib.hid (show (((w.alloc (.cells #[.int .i64 p.kind,.int .u32 p.mine,.int .u32 p.AL,.int .u32 p.yours,.int .u32 p.seq,.int .u32 p.AX,.int .u32 p.stamp,.int .u32 p.echo,.complex .f64 p.zr p.zi,.slice Ab p.body.length cb] 27)).alloc (.cells #[.bool false,.bool false,.bool false,.slice none 0 0] 56))).heap[w.heap.size]? = some (.cells #[.int .i64 p.kind,.int .u32 p.mine,.int .u32 p.AL,.int .u32 p.yours,.int .u32 p.seq,.int .u32 p.AX,.int .u32 p.stamp,.int .u32 p.echo,.complex .f64 p.zr p.zi,.slice Ab p.body.length cb] 27 (0,0)) from (Below.heap_alloc _ _ _ (by simp)).trans (heap_alloc_new w _))
 have H:=Lib.hid h
 have OK:=Lib.hid hok
 have HS:=Lib.hid hS
 have EN:=Lib.hid hpr
 have FK:=Lib.hid hck
 have hbz:(AL == 0) = false:=by simp [hb0]
 have ES:=Lib.hid Ci
 clear Ci
 clear h hok hS hpr hck hb0
 go_enter Try.func34,Try.ntmps34
 go_wp2_with fail
 refine Ap 3 (fun C HC => ?_)
 go_wp2_with (first | ((with_reducible refine AV (N:=17) rfl ?_); (refine wpList_load_row rfl 27 (.tmp 5) rfl w.heap.size (by rfl) 27 #[.int .i64 p.kind,.int .u32 p.mine,.int .u32 p.AL,.int .u32 p.yours,.int .u32 p.seq,.int .u32 p.AX,.int .u32 p.stamp,.int .u32 p.echo,.complex .f64 p.zr p.zi,.slice Ab p.body.length cb] (0,0) _ GU.out Try.underlying27 rfl (by kernel_rfl) ?_)) | (go_at_call 20; (refine (check_any _ _ _ _ _ _ _ _ _ _ _ _ _ _ EN.out.zr EN.out.zi).mono ?_); (rintro e BF ⟨rfl,hb⟩); (rw [FK.out]); (have K0:=Lib.hid (TS.start (pc:=#[.int .i64 p.kind,.int .u32 p.mine,.int .u32 p.AL,.int .u32 p.yours,.int .u32 p.seq,.int .u32 p.AX,.int .u32 p.stamp,.int .u32 p.echo,.complex .f64 p.zr p.zi,.slice Ab p.body.length cb]) H.out HS.out hB (hb.mono (by simp)))); (clear hb); (have hl1:BF.cell? ⟨g,1,none⟩ = some (.int .i64 0):=(AA K0.out.at_.blk 1).trans (congrArg (fun x => some (Value.int .i64 x)) ES.out)); (have hp0:BF.cell? ⟨w.heap.size,0,none⟩ = some (.int .i64 p.kind):=(AA K0.out.pb 0).trans rfl); (have hp1:BF.cell? ⟨w.heap.size,1,none⟩ = some (.int .u32 p.mine):=(AA K0.out.pb 1).trans rfl)) | (go_at_call 76; (refine (C9 K0.out.at_ AL p.mine).mono ?_); (rintro e w1 ⟨rfl,rfl⟩); (skip)))
 exact Z6
theorem UI {w:World} {B g:Nat} {Af Ac S:Nat → Prop} {L:Lk} {q o:Value} (h:At w B Af Ac g L q o) (hok:L.Ok) (hS:∀ k,holds Af Ac g k → S k) (hB:B ≤ w.heap.size) (AL:Int) (p:BJ) (Ab:Option Addr) (cb:Nat)
  (hb0:AL ≠ 0) (hbr:0 ≤ AL ∧ AL < 4294967296) (hpr:p.Jw) (hck:Ah p.kind p.mine p.AL p.yours p.seq p.AX p.stamp p.echo p.zr p.zi p.body.length = 0)  (Ci:L.phase ≠ 0) (hag:Dj L AL p.mine = -1) :
  Calls Try.prog 34 #[.pointer (some ⟨g,0,none⟩),.int .u32 AL,.agg #[.int .i64 p.kind,.int .u32 p.mine,.int .u32 p.AL,.int .u32 p.yours,.int .u32 p.seq,.int .u32 p.AX,.int .u32 p.stamp,.int .u32 p.echo,.complex .f64 p.zr p.zi,.slice Ab p.body.length cb]] w fun e w' => Ei w B S g (L) false false false [] e w':=by
 have GU:=Lib.hid (show (((w.alloc (.cells #[.int .i64 p.kind,.int .u32 p.mine,.int .u32 p.AL,.int .u32 p.yours,.int .u32 p.seq,.int .u32 p.AX,.int .u32 p.stamp,.int .u32 p.echo,.complex .f64 p.zr p.zi,.slice Ab p.body.length cb] 27)).alloc (.cells #[.bool false,.bool false,.bool false,.slice none 0 0] 56))).heap[w.heap.size]? = some (.cells #[.int .i64 p.kind,.int .u32 p.mine,.int .u32 p.AL,.int .u32 p.yours,.int .u32 p.seq,.int .u32 p.AX,.int .u32 p.stamp,.int .u32 p.echo,.complex .f64 p.zr p.zi,.slice Ab p.body.length cb] 27 (0,0)) from (Below.heap_alloc _ _ _ (by simp)).trans (heap_alloc_new w _))
 have H:=Lib.hid h
 have OK:=Lib.hid hok
 have HS:=Lib.hid hS
 have EN:=Lib.hid hpr
 have FK:=Lib.hid hck
 have hbz:(AL == 0) = false:=by simp [hb0]
 have IQ:=Lib.hid hag
 clear hag
 have hd1:(L.phase == 0) = false:=by simp [Ci]
 clear Ci
 clear h hok hS hpr hck hb0
 go_enter Try.func34,Try.ntmps34
 go_wp2_with fail
 refine Ap 3 (fun C HC => ?_)
 go_wp2_with (first | ((with_reducible refine AV (N:=17) rfl ?_); (refine wpList_load_row rfl 27 (.tmp 5) rfl w.heap.size (by rfl) 27 #[.int .i64 p.kind,.int .u32 p.mine,.int .u32 p.AL,.int .u32 p.yours,.int .u32 p.seq,.int .u32 p.AX,.int .u32 p.stamp,.int .u32 p.echo,.complex .f64 p.zr p.zi,.slice Ab p.body.length cb] (0,0) _ GU.out Try.underlying27 rfl (by kernel_rfl) ?_)) | (go_at_call 20; (refine (check_any _ _ _ _ _ _ _ _ _ _ _ _ _ _ EN.out.zr EN.out.zi).mono ?_); (rintro e BF ⟨rfl,hb⟩); (rw [FK.out]); (have K0:=Lib.hid (TS.start (pc:=#[.int .i64 p.kind,.int .u32 p.mine,.int .u32 p.AL,.int .u32 p.yours,.int .u32 p.seq,.int .u32 p.AX,.int .u32 p.stamp,.int .u32 p.echo,.complex .f64 p.zr p.zi,.slice Ab p.body.length cb]) H.out HS.out hB (hb.mono (by simp)))); (clear hb); (have hl1:BF.cell? ⟨g,1,none⟩ = some (.int .i64 L.phase):=(AA K0.out.at_.blk 1).trans rfl); (have hp0:BF.cell? ⟨w.heap.size,0,none⟩ = some (.int .i64 p.kind):=(AA K0.out.pb 0).trans rfl); (have hp1:BF.cell? ⟨w.heap.size,1,none⟩ = some (.int .u32 p.mine):=(AA K0.out.pb 1).trans rfl)) | (go_at_call 76; (refine (C9 K0.out.at_ AL p.mine).mono ?_); (rintro e w1 ⟨rfl,rfl⟩); (rw [IQ.out])))
 exact Z6
theorem Ou {w:World} {B g:Nat} {Af Ac S:Nat → Prop} {L:Lk} {q o:Value} (h:At w B Af Ac g L q o) (hok:L.Ok) (hS:∀ k,holds Af Ac g k → S k) (hB:B ≤ w.heap.size) (AL:Int) (p:BJ) (Ab:Option Addr) (cb:Nat)
  (hb0:AL ≠ 0) (hbr:0 ≤ AL ∧ AL < 4294967296) (hpr:p.Jw) (hck:Ah p.kind p.mine p.AL p.yours p.seq p.AX p.stamp p.echo p.zr p.zi p.body.length = 0)  (Ci:L.phase = 1) (hag:0 ≤ Dj L AL p.mine) (hkd:p.kind = 1) (hmn:BU L p = true) :
  Calls Try.prog 34 #[.pointer (some ⟨g,0,none⟩),.int .u32 AL,.agg #[.int .i64 p.kind,.int .u32 p.mine,.int .u32 p.AL,.int .u32 p.yours,.int .u32 p.seq,.int .u32 p.AX,.int .u32 p.stamp,.int .u32 p.echo,.complex .f64 p.zr p.zi,.slice Ab p.body.length cb]] w fun e w' => Ei w B S g (emit_ ({ L with phase:=2,AL:=AL,yours:=p.mine,known:=true }) (CY ({ L with phase:=2,AL:=AL,yours:=p.mine,known:=true }))) true true false [] e w':=by
 have GU:=Lib.hid (show (((w.alloc (.cells #[.int .i64 p.kind,.int .u32 p.mine,.int .u32 p.AL,.int .u32 p.yours,.int .u32 p.seq,.int .u32 p.AX,.int .u32 p.stamp,.int .u32 p.echo,.complex .f64 p.zr p.zi,.slice Ab p.body.length cb] 27)).alloc (.cells #[.bool false,.bool false,.bool false,.slice none 0 0] 56))).heap[w.heap.size]? = some (.cells #[.int .i64 p.kind,.int .u32 p.mine,.int .u32 p.AL,.int .u32 p.yours,.int .u32 p.seq,.int .u32 p.AX,.int .u32 p.stamp,.int .u32 p.echo,.complex .f64 p.zr p.zi,.slice Ab p.body.length cb] 27 (0,0)) from (Below.heap_alloc _ _ _ (by simp)).trans (heap_alloc_new w _))
 have H:=Lib.hid h
 have OK:=Lib.hid hok
 have HS:=Lib.hid hS
 have EN:=Lib.hid hpr
 have FK:=Lib.hid hck
 have hbz:(AL == 0) = false:=by simp [hb0]
 have ES:=Lib.hid Ci
 clear Ci
 have Ez:=Lib.hid hkd
 clear hkd
 have hd2:decide (Dj L AL p.mine < 0) = false:=by simp; omega
 clear hag
 have I5:=Lib.hid hmn
 clear hmn
 have Zw:=Lib.hid (Jh OK.out hbr EN.out.mine true)
 have yT:=Lib.hid hbr
 clear hbr
 clear h hok hS hpr hck hb0
 go_enter Try.func34,Try.ntmps34
 go_wp2_with fail
 refine Ap 3 (fun C HC => ?_)
 go_wp2_with (first | ((with_reducible refine AV (N:=17) rfl ?_); (refine wpList_load_row rfl 27 (.tmp 5) rfl w.heap.size (by rfl) 27 #[.int .i64 p.kind,.int .u32 p.mine,.int .u32 p.AL,.int .u32 p.yours,.int .u32 p.seq,.int .u32 p.AX,.int .u32 p.stamp,.int .u32 p.echo,.complex .f64 p.zr p.zi,.slice Ab p.body.length cb] (0,0) _ GU.out Try.underlying27 rfl (by kernel_rfl) ?_)) | (go_at_call 20; (refine (check_any _ _ _ _ _ _ _ _ _ _ _ _ _ _ EN.out.zr EN.out.zi).mono ?_); (rintro e BF ⟨rfl,hb⟩); (rw [FK.out]); (have K0:=Lib.hid (TS.start (pc:=#[.int .i64 p.kind,.int .u32 p.mine,.int .u32 p.AL,.int .u32 p.yours,.int .u32 p.seq,.int .u32 p.AX,.int .u32 p.stamp,.int .u32 p.echo,.complex .f64 p.zr p.zi,.slice Ab p.body.length cb]) H.out HS.out hB (hb.mono (by simp)))); (clear hb); (have hl1:BF.cell? ⟨g,1,none⟩ = some (.int .i64 1):=(AA K0.out.at_.blk 1).trans (congrArg (fun x => some (Value.int .i64 x)) ES.out)); (have hp0:BF.cell? ⟨w.heap.size,0,none⟩ = some (.int .i64 1):=(AA K0.out.pb 0).trans (congrArg (fun x => some (Value.int .i64 x)) Ez.out)); (have hp1:BF.cell? ⟨w.heap.size,1,none⟩ = some (.int .u32 p.mine):=(AA K0.out.pb 1).trans rfl)) | (go_at_call 76; (refine (C9 K0.out.at_ AL p.mine).mono ?_); (rintro e w1 ⟨rfl,rfl⟩); (skip)) | ((with_reducible refine gate_ (.store 4 (.tmp 40) (.const (.bool true))) rfl ?_); (refine AY (fun wz => TS w B S g #[.int .i64 p.kind,.int .u32 p.mine,.int .u32 p.AL,.int .u32 p.yours,.int .u32 p.seq,.int .u32 p.AX,.int .u32 p.stamp,.int .u32 p.echo,.complex .f64 p.zr p.zi,.slice Ab p.body.length cb] Af Ac (fun _ => False) (L) q o true false false (.slice none 0 0) [] wz) rfl rfl ⟨_,(by have hz1:World.cell? BF ⟨w.heap.size + 1,0,none⟩ = some _:=(AA K0.out.tb 0).trans rfl; have hz2:=AB K0.out.tb 0; first | (go_simp; done) | (go_simp; rfl)),TS.EY K0.out hB 0 _ rfl⟩ (fun Bl hF => ?_)); (have K1:=Lib.hid hF); (clear hF); (clear hl1 hp0 hp1); (have hl1:Bl.cell? ⟨g,1,none⟩ = some (.int .i64 1):=(AA K1.out.at_.blk 1).trans (congrArg (fun x => some (Value.int .i64 x)) ES.out)); (have hp0:Bl.cell? ⟨w.heap.size,0,none⟩ = some (.int .i64 1):=(AA K1.out.pb 0).trans (congrArg (fun x => some (Value.int .i64 x)) Ez.out))))
 refine wp_goto ?_
 refine Jump.goto HC.out rfl ?_
 go_wp2_with fail
 have hSS:Bl.drew.heap[w.heap.size]? = some (.cells #[.int .i64 p.kind,.int .u32 p.mine,.int .u32 p.AL,.int .u32 p.yours,.int .u32 p.seq,.int .u32 p.AX,.int .u32 p.stamp,.int .u32 p.echo,.complex .f64 p.zr p.zi,.slice Ab p.body.length cb] 27 (0,0)):=K1.out.pb
 have hts:=K1.out.drew hB
 clear hl1 hp0
 refine Aw (n:=15) (S:=fun w' => w'.heap[w.heap.size]? = some (.cells #[.int .i64 p.kind,.int .u32 p.mine,.int .u32 p.AL,.int .u32 p.yours,.int .u32 p.seq,.int .u32 p.AX,.int .u32 p.stamp,.int .u32 p.echo,.complex .f64 p.zr p.zi,.slice Ab p.body.length cb] 27 (0,0))) (ds:=[]) jF (by kernel_rfl) rfl rfl (hSS) (fun hHeld => ?_)
 generalize Bl.drew = YH at hts hHeld ⊢
 have YI:=Lib.hid hts
 clear hts hSS
 refine pu 0 63 jG ?_
 refine pu 1 64 jH ?_
 refine pu 2 65 jI ?_
 refine pu 3 66 jJ ?_
 refine pu 4 67 jK ?_
 refine tk 5 68 jL hHeld ?_ (hf:=by intro w' s0; have hp1:w'.cell? ⟨w.heap.size,1,none⟩ = some (.int .u32 p.mine):=(AA s0 1).trans rfl; clear s0; go_simp; with_reducible rfl)
 refine pu 6 69 jM ?_
 refine pu 7 70 jO ?_
 refine on 8 none jP fun K hK => ?_
 have hz1:YH.cell? ⟨g,3,none⟩ = some _:=(AA YI.out.at_.blk 3).trans rfl
 have hz2:=AB YI.out.at_.blk 3
 refine BO (fun wz => TS w B S g #[.int .i64 p.kind,.int .u32 p.mine,.int .u32 p.AL,.int .u32 p.yours,.int .u32 p.seq,.int .u32 p.AX,.int .u32 p.stamp,.int .u32 p.echo,.complex .f64 p.zr p.zi,.slice Ab p.body.length cb] Af Ac (fun _ => False) ({ L with AL:=AL }) q o true false false (.slice none 0 0) [] wz) (by rfl) rfl ⟨_,by first | (go_simp; done) | (go_simp; rfl),TS.Dz YI.out hB 3 _ rfl rfl rfl⟩ (fun CJ hF => ?_)
 have K3:=Lib.hid hF
 clear hF hz1 hz2 hHeld
 refine hK.out _ _ K3.out.pb (fun hHeld => ?_)
 clear hK K
 refine pu 9 71 jQ ?_
 refine pu 10 72 jR ?_
 refine on 11 none jS fun K hK => ?_
 have hz1:CJ.cell? ⟨g,4,none⟩ = some _:=(AA K3.out.at_.blk 4).trans rfl
 have hz2:=AB K3.out.at_.blk 4
 refine BO (fun wz => TS w B S g #[.int .i64 p.kind,.int .u32 p.mine,.int .u32 p.AL,.int .u32 p.yours,.int .u32 p.seq,.int .u32 p.AX,.int .u32 p.stamp,.int .u32 p.echo,.complex .f64 p.zr p.zi,.slice Ab p.body.length cb] Af Ac (fun _ => False) ({ L with AL:=AL,yours:=p.mine }) q o true false false (.slice none 0 0) [] wz) (by rfl) rfl ⟨_,by first | (go_simp; done) | (go_simp; rfl),TS.Dz K3.out hB 4 _ rfl rfl rfl⟩ (fun Dl hF => ?_)
 have K4:=Lib.hid hF
 clear hF hz1 hz2 hHeld
 refine hK.out _ _ K4.out.pb (fun hHeld => ?_)
 clear hK K
 refine pu 12 73 jT ?_
 refine pu 13 74 jU ?_
 refine on 14 none jV fun K hK => ?_
 have hz1:Dl.cell? ⟨g,5,none⟩ = some _:=(AA K4.out.at_.blk 5).trans rfl
 have hz2:=AB K4.out.at_.blk 5
 refine BO (fun wz => TS w B S g #[.int .i64 p.kind,.int .u32 p.mine,.int .u32 p.AL,.int .u32 p.yours,.int .u32 p.seq,.int .u32 p.AX,.int .u32 p.stamp,.int .u32 p.echo,.complex .f64 p.zr p.zi,.slice Ab p.body.length cb] Af Ac (fun _ => False) ({ L with AL:=AL,yours:=p.mine,known:=true }) q o true false false (.slice none 0 0) [] wz) (by rfl) rfl ⟨_,by first | (go_simp; done) | (go_simp; rfl),TS.Dz K4.out hB 5 _ rfl rfl rfl⟩ (fun ED hF => ?_)
 have K5:=Lib.hid hF
 clear hF hz1 hz2 hHeld
 refine hK.out _ _ K5.out.pb (fun hHeld => ?_)
 clear hK K
 refine BN (by kernel_rfl) ?_
 clear hHeld
 go_wp2_with (first | ((with_reducible refine AV (N:=76) rfl ?_); (refine wpList_load_row rfl 27 (.tmp 5) rfl w.heap.size (by rfl) 27 _ (0,0) _ (by first | exact K5.out.pb | exact (K5.out.drewN hB _).pb) Try.underlying27 rfl (by kernel_rfl) ?_)) | (go_at_call 77; (refine (DV K5.out.at_ p (.slice Ab p.body.length cb)).mono ?_); (rintro e IM ⟨rfl,hb⟩); (have hme:BU ({ L with AL:=AL,yours:=p.mine,known:=true }) p = true:=I5.out); (rw [hme]); (clear hme); (have K6:=Lib.hid (K5.out.sub hB hb)); (clear hb)) | ((with_reducible refine gate_ (.store 3 (.tmp 80) (.const (.int .i64 2))) rfl ?_); (refine AY (fun wz => TS w B S g #[.int .i64 p.kind,.int .u32 p.mine,.int .u32 p.AL,.int .u32 p.yours,.int .u32 p.seq,.int .u32 p.AX,.int .u32 p.stamp,.int .u32 p.echo,.complex .f64 p.zr p.zi,.slice Ab p.body.length cb] Af Ac (fun _ => False) ({ L with phase:=2,AL:=AL,yours:=p.mine,known:=true }) q o true false false (.slice none 0 0) [] wz) rfl rfl ⟨_,(by have hz1:World.cell? IM ⟨g,1,none⟩ = some _:=(AA K6.out.at_.blk 1).trans rfl; have hz2:=AB K6.out.at_.blk 1; first | (go_simp; done) | (go_simp; rfl)),TS.Dz K6.out hB 1 _ rfl rfl rfl⟩ (fun Hz hF => ?_)); (have K7:=Lib.hid hF); (clear hF)) | ((with_reducible refine gate_ (.store 4 (.tmp 81) (.const (.bool true))) rfl ?_); (refine AY (fun wz => TS w B S g #[.int .i64 p.kind,.int .u32 p.mine,.int .u32 p.AL,.int .u32 p.yours,.int .u32 p.seq,.int .u32 p.AX,.int .u32 p.stamp,.int .u32 p.echo,.complex .f64 p.zr p.zi,.slice Ab p.body.length cb] Af Ac (fun _ => False) ({ L with phase:=2,AL:=AL,yours:=p.mine,known:=true }) q o true true false (.slice none 0 0) [] wz) rfl rfl ⟨_,(by have hz1:World.cell? Hz ⟨w.heap.size + 1,1,none⟩ = some _:=(AA K7.out.tb 1).trans rfl; have hz2:=AB K7.out.tb 1; first | (go_simp; done) | (go_simp; rfl)),TS.EY K7.out hB 1 _ rfl⟩ (fun NK hF => ?_)); (have K8:=Lib.hid hF); (clear hF)) | (go_at_call 73; (refine (F7 K8.out.at_ (NM Zw.out (by decide)) (Nat.le_trans hB K8.out.kept.1)).mono ?_); (rintro e WB ⟨rfl,hE⟩); (obtain ⟨YJ,kF,hF⟩:=TS.Gx K8.out hB hE); (clear hE); (have K9:=Lib.hid hF); (clear hF)))
 refine wp_goto ?_
 refine Jump.goto HC.out rfl ?_
 exact pR
theorem Ov {w:World} {B g:Nat} {Af Ac S:Nat → Prop} {L:Lk} {q o:Value} (h:At w B Af Ac g L q o) (hok:L.Ok) (hS:∀ k,holds Af Ac g k → S k) (hB:B ≤ w.heap.size) (AL:Int) (p:BJ) (Ab:Option Addr) (cb:Nat)
  (hb0:AL ≠ 0) (hbr:0 ≤ AL ∧ AL < 4294967296) (hpr:p.Jw) (hck:Ah p.kind p.mine p.AL p.yours p.seq p.AX p.stamp p.echo p.zr p.zi p.body.length = 0)  (Ci:L.phase = 1) (hag:0 ≤ Dj L AL p.mine) (hkd:p.kind = 1) (hmn:BU L p = false) :
  Calls Try.prog 34 #[.pointer (some ⟨g,0,none⟩),.int .u32 AL,.agg #[.int .i64 p.kind,.int .u32 p.mine,.int .u32 p.AL,.int .u32 p.yours,.int .u32 p.seq,.int .u32 p.AX,.int .u32 p.stamp,.int .u32 p.echo,.complex .f64 p.zr p.zi,.slice Ab p.body.length cb]] w fun e w' => Ei w B S g (emit_ ({ L with AL:=AL,yours:=p.mine,known:=true }) (CY ({ L with AL:=AL,yours:=p.mine,known:=true }))) true false false [] e w':=by
 have GU:=Lib.hid (show (((w.alloc (.cells #[.int .i64 p.kind,.int .u32 p.mine,.int .u32 p.AL,.int .u32 p.yours,.int .u32 p.seq,.int .u32 p.AX,.int .u32 p.stamp,.int .u32 p.echo,.complex .f64 p.zr p.zi,.slice Ab p.body.length cb] 27)).alloc (.cells #[.bool false,.bool false,.bool false,.slice none 0 0] 56))).heap[w.heap.size]? = some (.cells #[.int .i64 p.kind,.int .u32 p.mine,.int .u32 p.AL,.int .u32 p.yours,.int .u32 p.seq,.int .u32 p.AX,.int .u32 p.stamp,.int .u32 p.echo,.complex .f64 p.zr p.zi,.slice Ab p.body.length cb] 27 (0,0)) from (Below.heap_alloc _ _ _ (by simp)).trans (heap_alloc_new w _))
 have H:=Lib.hid h
 have OK:=Lib.hid hok
 have HS:=Lib.hid hS
 have EN:=Lib.hid hpr
 have FK:=Lib.hid hck
 have hbz:(AL == 0) = false:=by simp [hb0]
 have ES:=Lib.hid Ci
 clear Ci
 have Ez:=Lib.hid hkd
 clear hkd
 have hd2:decide (Dj L AL p.mine < 0) = false:=by simp; omega
 clear hag
 have I5:=Lib.hid hmn
 clear hmn
 have Zw:=Lib.hid (Jh OK.out hbr EN.out.mine true)
 have yT:=Lib.hid hbr
 clear hbr
 clear h hok hS hpr hck hb0
 go_enter Try.func34,Try.ntmps34
 go_wp2_with fail
 refine Ap 3 (fun C HC => ?_)
 go_wp2_with (first | ((with_reducible refine AV (N:=17) rfl ?_); (refine wpList_load_row rfl 27 (.tmp 5) rfl w.heap.size (by rfl) 27 #[.int .i64 p.kind,.int .u32 p.mine,.int .u32 p.AL,.int .u32 p.yours,.int .u32 p.seq,.int .u32 p.AX,.int .u32 p.stamp,.int .u32 p.echo,.complex .f64 p.zr p.zi,.slice Ab p.body.length cb] (0,0) _ GU.out Try.underlying27 rfl (by kernel_rfl) ?_)) | (go_at_call 20; (refine (check_any _ _ _ _ _ _ _ _ _ _ _ _ _ _ EN.out.zr EN.out.zi).mono ?_); (rintro e BF ⟨rfl,hb⟩); (rw [FK.out]); (have K0:=Lib.hid (TS.start (pc:=#[.int .i64 p.kind,.int .u32 p.mine,.int .u32 p.AL,.int .u32 p.yours,.int .u32 p.seq,.int .u32 p.AX,.int .u32 p.stamp,.int .u32 p.echo,.complex .f64 p.zr p.zi,.slice Ab p.body.length cb]) H.out HS.out hB (hb.mono (by simp)))); (clear hb); (have hl1:BF.cell? ⟨g,1,none⟩ = some (.int .i64 1):=(AA K0.out.at_.blk 1).trans (congrArg (fun x => some (Value.int .i64 x)) ES.out)); (have hp0:BF.cell? ⟨w.heap.size,0,none⟩ = some (.int .i64 1):=(AA K0.out.pb 0).trans (congrArg (fun x => some (Value.int .i64 x)) Ez.out)); (have hp1:BF.cell? ⟨w.heap.size,1,none⟩ = some (.int .u32 p.mine):=(AA K0.out.pb 1).trans rfl)) | (go_at_call 76; (refine (C9 K0.out.at_ AL p.mine).mono ?_); (rintro e w1 ⟨rfl,rfl⟩); (skip)) | ((with_reducible refine gate_ (.store 4 (.tmp 40) (.const (.bool true))) rfl ?_); (refine AY (fun wz => TS w B S g #[.int .i64 p.kind,.int .u32 p.mine,.int .u32 p.AL,.int .u32 p.yours,.int .u32 p.seq,.int .u32 p.AX,.int .u32 p.stamp,.int .u32 p.echo,.complex .f64 p.zr p.zi,.slice Ab p.body.length cb] Af Ac (fun _ => False) (L) q o true false false (.slice none 0 0) [] wz) rfl rfl ⟨_,(by have hz1:World.cell? BF ⟨w.heap.size + 1,0,none⟩ = some _:=(AA K0.out.tb 0).trans rfl; have hz2:=AB K0.out.tb 0; first | (go_simp; done) | (go_simp; rfl)),TS.EY K0.out hB 0 _ rfl⟩ (fun Bl hF => ?_)); (have K1:=Lib.hid hF); (clear hF); (clear hl1 hp0 hp1); (have hl1:Bl.cell? ⟨g,1,none⟩ = some (.int .i64 1):=(AA K1.out.at_.blk 1).trans (congrArg (fun x => some (Value.int .i64 x)) ES.out)); (have hp0:Bl.cell? ⟨w.heap.size,0,none⟩ = some (.int .i64 1):=(AA K1.out.pb 0).trans (congrArg (fun x => some (Value.int .i64 x)) Ez.out))))
 refine wp_goto ?_
 refine Jump.goto HC.out rfl ?_
 go_wp2_with fail
 have hSS:Bl.drew.heap[w.heap.size]? = some (.cells #[.int .i64 p.kind,.int .u32 p.mine,.int .u32 p.AL,.int .u32 p.yours,.int .u32 p.seq,.int .u32 p.AX,.int .u32 p.stamp,.int .u32 p.echo,.complex .f64 p.zr p.zi,.slice Ab p.body.length cb] 27 (0,0)):=K1.out.pb
 have hts:=K1.out.drew hB
 clear hl1 hp0
 refine Aw (n:=15) (S:=fun w' => w'.heap[w.heap.size]? = some (.cells #[.int .i64 p.kind,.int .u32 p.mine,.int .u32 p.AL,.int .u32 p.yours,.int .u32 p.seq,.int .u32 p.AX,.int .u32 p.stamp,.int .u32 p.echo,.complex .f64 p.zr p.zi,.slice Ab p.body.length cb] 27 (0,0))) (ds:=[]) jF (by kernel_rfl) rfl rfl (hSS) (fun hHeld => ?_)
 generalize Bl.drew = YH at hts hHeld ⊢
 have YI:=Lib.hid hts
 clear hts hSS
 refine pu 0 63 jG ?_
 refine pu 1 64 jH ?_
 refine pu 2 65 jI ?_
 refine pu 3 66 jJ ?_
 refine pu 4 67 jK ?_
 refine tk 5 68 jL hHeld ?_ (hf:=by intro w' s0; have hp1:w'.cell? ⟨w.heap.size,1,none⟩ = some (.int .u32 p.mine):=(AA s0 1).trans rfl; clear s0; go_simp; with_reducible rfl)
 refine pu 6 69 jM ?_
 refine pu 7 70 jO ?_
 refine on 8 none jP fun K hK => ?_
 have hz1:YH.cell? ⟨g,3,none⟩ = some _:=(AA YI.out.at_.blk 3).trans rfl
 have hz2:=AB YI.out.at_.blk 3
 refine BO (fun wz => TS w B S g #[.int .i64 p.kind,.int .u32 p.mine,.int .u32 p.AL,.int .u32 p.yours,.int .u32 p.seq,.int .u32 p.AX,.int .u32 p.stamp,.int .u32 p.echo,.complex .f64 p.zr p.zi,.slice Ab p.body.length cb] Af Ac (fun _ => False) ({ L with AL:=AL }) q o true false false (.slice none 0 0) [] wz) (by rfl) rfl ⟨_,by first | (go_simp; done) | (go_simp; rfl),TS.Dz YI.out hB 3 _ rfl rfl rfl⟩ (fun CJ hF => ?_)
 have K3:=Lib.hid hF
 clear hF hz1 hz2 hHeld
 refine hK.out _ _ K3.out.pb (fun hHeld => ?_)
 clear hK K
 refine pu 9 71 jQ ?_
 refine pu 10 72 jR ?_
 refine on 11 none jS fun K hK => ?_
 have hz1:CJ.cell? ⟨g,4,none⟩ = some _:=(AA K3.out.at_.blk 4).trans rfl
 have hz2:=AB K3.out.at_.blk 4
 refine BO (fun wz => TS w B S g #[.int .i64 p.kind,.int .u32 p.mine,.int .u32 p.AL,.int .u32 p.yours,.int .u32 p.seq,.int .u32 p.AX,.int .u32 p.stamp,.int .u32 p.echo,.complex .f64 p.zr p.zi,.slice Ab p.body.length cb] Af Ac (fun _ => False) ({ L with AL:=AL,yours:=p.mine }) q o true false false (.slice none 0 0) [] wz) (by rfl) rfl ⟨_,by first | (go_simp; done) | (go_simp; rfl),TS.Dz K3.out hB 4 _ rfl rfl rfl⟩ (fun Dl hF => ?_)
 have K4:=Lib.hid hF
 clear hF hz1 hz2 hHeld
 refine hK.out _ _ K4.out.pb (fun hHeld => ?_)
 clear hK K
 refine pu 12 73 jT ?_
 refine pu 13 74 jU ?_
 refine on 14 none jV fun K hK => ?_
 have hz1:Dl.cell? ⟨g,5,none⟩ = some _:=(AA K4.out.at_.blk 5).trans rfl
 have hz2:=AB K4.out.at_.blk 5
 refine BO (fun wz => TS w B S g #[.int .i64 p.kind,.int .u32 p.mine,.int .u32 p.AL,.int .u32 p.yours,.int .u32 p.seq,.int .u32 p.AX,.int .u32 p.stamp,.int .u32 p.echo,.complex .f64 p.zr p.zi,.slice Ab p.body.length cb] Af Ac (fun _ => False) ({ L with AL:=AL,yours:=p.mine,known:=true }) q o true false false (.slice none 0 0) [] wz) (by rfl) rfl ⟨_,by first | (go_simp; done) | (go_simp; rfl),TS.Dz K4.out hB 5 _ rfl rfl rfl⟩ (fun ED hF => ?_)
 have K5:=Lib.hid hF
 clear hF hz1 hz2 hHeld
 refine hK.out _ _ K5.out.pb (fun hHeld => ?_)
 clear hK K
 refine BN (by kernel_rfl) ?_
 clear hHeld
 go_wp2_with (first | ((with_reducible refine AV (N:=76) rfl ?_); (refine wpList_load_row rfl 27 (.tmp 5) rfl w.heap.size (by rfl) 27 _ (0,0) _ (by first | exact K5.out.pb | exact (K5.out.drewN hB _).pb) Try.underlying27 rfl (by kernel_rfl) ?_)) | (go_at_call 77; (refine (DV K5.out.at_ p (.slice Ab p.body.length cb)).mono ?_); (rintro e IM ⟨rfl,hb⟩); (have hme:BU ({ L with AL:=AL,yours:=p.mine,known:=true }) p = false:=I5.out); (rw [hme]); (clear hme); (have K6:=Lib.hid (K5.out.sub hB hb)); (clear hb)) | (go_at_call 73; (refine (F7 K6.out.at_ (Zw.out) (Nat.le_trans hB K6.out.kept.1)).mono ?_); (rintro e Hz ⟨rfl,hE⟩); (obtain ⟨Ox,UJ,hF⟩:=TS.Gx K6.out hB hE); (clear hE); (have K7:=Lib.hid hF); (clear hF)))
 refine wp_goto ?_
 refine Jump.goto HC.out rfl ?_
 exact YG
theorem NP {w:World} {B g:Nat} {Af Ac S:Nat → Prop} {L:Lk} {q o:Value} (h:At w B Af Ac g L q o) (hok:L.Ok) (hS:∀ k,holds Af Ac g k → S k) (hB:B ≤ w.heap.size) (AL:Int) (p:BJ) (Ab:Option Addr) (cb:Nat)
  (hb0:AL ≠ 0) (hbr:0 ≤ AL ∧ AL < 4294967296) (hpr:p.Jw) (hck:Ah p.kind p.mine p.AL p.yours p.seq p.AX p.stamp p.echo p.zr p.zi p.body.length = 0)  (Ci:L.phase = 2) (hag:Dj L AL p.mine = 0) (hkd:p.kind = 1) (JW:p.seq = 0) :
  Calls Try.prog 34 #[.pointer (some ⟨g,0,none⟩),.int .u32 AL,.agg #[.int .i64 p.kind,.int .u32 p.mine,.int .u32 p.AL,.int .u32 p.yours,.int .u32 p.seq,.int .u32 p.AX,.int .u32 p.stamp,.int .u32 p.echo,.complex .f64 p.zr p.zi,.slice Ab p.body.length cb]] w fun e w' => Ei w B S g (emit_ L (CY L)) true false false [] e w':=by
 have GU:=Lib.hid (show (((w.alloc (.cells #[.int .i64 p.kind,.int .u32 p.mine,.int .u32 p.AL,.int .u32 p.yours,.int .u32 p.seq,.int .u32 p.AX,.int .u32 p.stamp,.int .u32 p.echo,.complex .f64 p.zr p.zi,.slice Ab p.body.length cb] 27)).alloc (.cells #[.bool false,.bool false,.bool false,.slice none 0 0] 56))).heap[w.heap.size]? = some (.cells #[.int .i64 p.kind,.int .u32 p.mine,.int .u32 p.AL,.int .u32 p.yours,.int .u32 p.seq,.int .u32 p.AX,.int .u32 p.stamp,.int .u32 p.echo,.complex .f64 p.zr p.zi,.slice Ab p.body.length cb] 27 (0,0)) from (Below.heap_alloc _ _ _ (by simp)).trans (heap_alloc_new w _))
 have H:=Lib.hid h
 have OK:=Lib.hid hok
 have HS:=Lib.hid hS
 have EN:=Lib.hid hpr
 have FK:=Lib.hid hck
 have hbz:(AL == 0) = false:=by simp [hb0]
 have ES:=Lib.hid Ci
 clear Ci
 have IQ:=Lib.hid hag
 clear hag
 have Ez:=Lib.hid hkd
 clear hkd
 have hd3:(p.seq == 0) = true:=by simp [JW]
 clear JW hbr
 clear h hok hS hpr hck hb0
 go_enter Try.func34,Try.ntmps34
 go_wp2_with fail
 refine Ap 3 (fun C HC => ?_)
 go_wp2_with (first | ((with_reducible refine AV (N:=17) rfl ?_); (refine wpList_load_row rfl 27 (.tmp 5) rfl w.heap.size (by rfl) 27 #[.int .i64 p.kind,.int .u32 p.mine,.int .u32 p.AL,.int .u32 p.yours,.int .u32 p.seq,.int .u32 p.AX,.int .u32 p.stamp,.int .u32 p.echo,.complex .f64 p.zr p.zi,.slice Ab p.body.length cb] (0,0) _ GU.out Try.underlying27 rfl (by kernel_rfl) ?_)) | (go_at_call 20; (refine (check_any _ _ _ _ _ _ _ _ _ _ _ _ _ _ EN.out.zr EN.out.zi).mono ?_); (rintro e BF ⟨rfl,hb⟩); (rw [FK.out]); (have K0:=Lib.hid (TS.start (pc:=#[.int .i64 p.kind,.int .u32 p.mine,.int .u32 p.AL,.int .u32 p.yours,.int .u32 p.seq,.int .u32 p.AX,.int .u32 p.stamp,.int .u32 p.echo,.complex .f64 p.zr p.zi,.slice Ab p.body.length cb]) H.out HS.out hB (hb.mono (by simp)))); (clear hb); (have hl1:BF.cell? ⟨g,1,none⟩ = some (.int .i64 2):=(AA K0.out.at_.blk 1).trans (congrArg (fun x => some (Value.int .i64 x)) ES.out)); (have hp0:BF.cell? ⟨w.heap.size,0,none⟩ = some (.int .i64 1):=(AA K0.out.pb 0).trans (congrArg (fun x => some (Value.int .i64 x)) Ez.out)); (have hp1:BF.cell? ⟨w.heap.size,1,none⟩ = some (.int .u32 p.mine):=(AA K0.out.pb 1).trans rfl)) | (go_at_call 76; (refine (C9 K0.out.at_ AL p.mine).mono ?_); (rintro e w1 ⟨rfl,rfl⟩); (rw [IQ.out])) | ((with_reducible refine gate_ (.store 4 (.tmp 40) (.const (.bool true))) rfl ?_); (refine AY (fun wz => TS w B S g #[.int .i64 p.kind,.int .u32 p.mine,.int .u32 p.AL,.int .u32 p.yours,.int .u32 p.seq,.int .u32 p.AX,.int .u32 p.stamp,.int .u32 p.echo,.complex .f64 p.zr p.zi,.slice Ab p.body.length cb] Af Ac (fun _ => False) (L) q o true false false (.slice none 0 0) [] wz) rfl rfl ⟨_,(by have hz1:World.cell? BF ⟨w.heap.size + 1,0,none⟩ = some _:=(AA K0.out.tb 0).trans rfl; have hz2:=AB K0.out.tb 0; first | (go_simp; done) | (go_simp; rfl)),TS.EY K0.out hB 0 _ rfl⟩ (fun Bl hF => ?_)); (have K1:=Lib.hid hF); (clear hF); (clear hl1 hp0 hp1); (have hl1:Bl.cell? ⟨g,1,none⟩ = some (.int .i64 2):=(AA K1.out.at_.blk 1).trans (congrArg (fun x => some (Value.int .i64 x)) ES.out)); (have Kt:Bl.cell? ⟨w.heap.size,4,none⟩ = some (.int .u32 p.seq):=(AA K1.out.pb 4).trans rfl)))
 refine wp_goto ?_
 refine Jump.goto HC.out rfl ?_
 go_wp2_with (first | (go_at_call 73; (refine (F7 K1.out.at_ (OK.out) (Nat.le_trans hB K1.out.kept.1)).mono ?_); (rintro e BG ⟨rfl,hE⟩); (obtain ⟨kG,yU,hF⟩:=TS.Gx K1.out hB hE); (clear hE); (have K2:=Lib.hid hF); (clear hF); (clear hl1 Kt)))
 refine wp_goto ?_
 refine Jump.goto HC.out rfl ?_
 exact pU
theorem NQ {w:World} {B g:Nat} {Af Ac S:Nat → Prop} {L:Lk} {q o:Value} (h:At w B Af Ac g L q o) (hok:L.Ok) (hS:∀ k,holds Af Ac g k → S k) (hB:B ≤ w.heap.size) (AL:Int) (p:BJ) (Ab:Option Addr) (cb:Nat)
  (hb0:AL ≠ 0) (hbr:0 ≤ AL ∧ AL < 4294967296) (hpr:p.Jw) (hck:Ah p.kind p.mine p.AL p.yours p.seq p.AX p.stamp p.echo p.zr p.zi p.body.length = 0)  (Ci:L.phase = 2) (hag:Dj L AL p.mine = 0) (hkd:p.kind = 1) (JW:¬ p.seq = 0) :
  Calls Try.prog 34 #[.pointer (some ⟨g,0,none⟩),.int .u32 AL,.agg #[.int .i64 p.kind,.int .u32 p.mine,.int .u32 p.AL,.int .u32 p.yours,.int .u32 p.seq,.int .u32 p.AX,.int .u32 p.stamp,.int .u32 p.echo,.complex .f64 p.zr p.zi,.slice Ab p.body.length cb]] w fun e w' => Ei w B S g (L) true false false [] e w':=by
 have GU:=Lib.hid (show (((w.alloc (.cells #[.int .i64 p.kind,.int .u32 p.mine,.int .u32 p.AL,.int .u32 p.yours,.int .u32 p.seq,.int .u32 p.AX,.int .u32 p.stamp,.int .u32 p.echo,.complex .f64 p.zr p.zi,.slice Ab p.body.length cb] 27)).alloc (.cells #[.bool false,.bool false,.bool false,.slice none 0 0] 56))).heap[w.heap.size]? = some (.cells #[.int .i64 p.kind,.int .u32 p.mine,.int .u32 p.AL,.int .u32 p.yours,.int .u32 p.seq,.int .u32 p.AX,.int .u32 p.stamp,.int .u32 p.echo,.complex .f64 p.zr p.zi,.slice Ab p.body.length cb] 27 (0,0)) from (Below.heap_alloc _ _ _ (by simp)).trans (heap_alloc_new w _))
 have H:=Lib.hid h
 have OK:=Lib.hid hok
 have HS:=Lib.hid hS
 have EN:=Lib.hid hpr
 have FK:=Lib.hid hck
 have hbz:(AL == 0) = false:=by simp [hb0]
 have ES:=Lib.hid Ci
 clear Ci
 have IQ:=Lib.hid hag
 clear hag
 have Ez:=Lib.hid hkd
 clear hkd
 have hd3:(p.seq == 0) = false:=by simp [JW]
 clear JW hbr
 clear h hok hS hpr hck hb0
 go_enter Try.func34,Try.ntmps34
 go_wp2_with fail
 refine Ap 3 (fun C HC => ?_)
 go_wp2_with (first | ((with_reducible refine AV (N:=17) rfl ?_); (refine wpList_load_row rfl 27 (.tmp 5) rfl w.heap.size (by rfl) 27 #[.int .i64 p.kind,.int .u32 p.mine,.int .u32 p.AL,.int .u32 p.yours,.int .u32 p.seq,.int .u32 p.AX,.int .u32 p.stamp,.int .u32 p.echo,.complex .f64 p.zr p.zi,.slice Ab p.body.length cb] (0,0) _ GU.out Try.underlying27 rfl (by kernel_rfl) ?_)) | (go_at_call 20; (refine (check_any _ _ _ _ _ _ _ _ _ _ _ _ _ _ EN.out.zr EN.out.zi).mono ?_); (rintro e BF ⟨rfl,hb⟩); (rw [FK.out]); (have K0:=Lib.hid (TS.start (pc:=#[.int .i64 p.kind,.int .u32 p.mine,.int .u32 p.AL,.int .u32 p.yours,.int .u32 p.seq,.int .u32 p.AX,.int .u32 p.stamp,.int .u32 p.echo,.complex .f64 p.zr p.zi,.slice Ab p.body.length cb]) H.out HS.out hB (hb.mono (by simp)))); (clear hb); (have hl1:BF.cell? ⟨g,1,none⟩ = some (.int .i64 2):=(AA K0.out.at_.blk 1).trans (congrArg (fun x => some (Value.int .i64 x)) ES.out)); (have hp0:BF.cell? ⟨w.heap.size,0,none⟩ = some (.int .i64 1):=(AA K0.out.pb 0).trans (congrArg (fun x => some (Value.int .i64 x)) Ez.out)); (have hp1:BF.cell? ⟨w.heap.size,1,none⟩ = some (.int .u32 p.mine):=(AA K0.out.pb 1).trans rfl)) | (go_at_call 76; (refine (C9 K0.out.at_ AL p.mine).mono ?_); (rintro e w1 ⟨rfl,rfl⟩); (rw [IQ.out])) | ((with_reducible refine gate_ (.store 4 (.tmp 40) (.const (.bool true))) rfl ?_); (refine AY (fun wz => TS w B S g #[.int .i64 p.kind,.int .u32 p.mine,.int .u32 p.AL,.int .u32 p.yours,.int .u32 p.seq,.int .u32 p.AX,.int .u32 p.stamp,.int .u32 p.echo,.complex .f64 p.zr p.zi,.slice Ab p.body.length cb] Af Ac (fun _ => False) (L) q o true false false (.slice none 0 0) [] wz) rfl rfl ⟨_,(by have hz1:World.cell? BF ⟨w.heap.size + 1,0,none⟩ = some _:=(AA K0.out.tb 0).trans rfl; have hz2:=AB K0.out.tb 0; first | (go_simp; done) | (go_simp; rfl)),TS.EY K0.out hB 0 _ rfl⟩ (fun Bl hF => ?_)); (have K1:=Lib.hid hF); (clear hF); (clear hl1 hp0 hp1); (have hl1:Bl.cell? ⟨g,1,none⟩ = some (.int .i64 2):=(AA K1.out.at_.blk 1).trans (congrArg (fun x => some (Value.int .i64 x)) ES.out)); (have Kt:Bl.cell? ⟨w.heap.size,4,none⟩ = some (.int .u32 p.seq):=(AA K1.out.pb 4).trans rfl)))
 refine wp_goto ?_
 refine Jump.goto HC.out rfl ?_
 go_wp2_with fail
 exact pV
theorem Oy {w:World} {B g:Nat} {Af Ac S:Nat → Prop} {L:Lk} {q o:Value} (h:At w B Af Ac g L q o) (hok:L.Ok) (hS:∀ k,holds Af Ac g k → S k) (hB:B ≤ w.heap.size) (AL:Int) (p:BJ) (Ab:Option Addr) (cb:Nat)
  (hb0:AL ≠ 0) (hbr:0 ≤ AL ∧ AL < 4294967296) (hpr:p.Jw) (hck:Ah p.kind p.mine p.AL p.yours p.seq p.AX p.stamp p.echo p.zr p.zi p.body.length = 0)  (Ci:L.phase = 2) (hag:Dj L AL p.mine = 1) (hkd:p.kind = 1) (hmx:L.token = 4294967295) :
  Calls Try.prog 34 #[.pointer (some ⟨g,0,none⟩),.int .u32 AL,.agg #[.int .i64 p.kind,.int .u32 p.mine,.int .u32 p.AL,.int .u32 p.yours,.int .u32 p.seq,.int .u32 p.AX,.int .u32 p.stamp,.int .u32 p.echo,.complex .f64 p.zr p.zi,.slice Ab p.body.length cb]] w fun e w' => Ei w B S g (FV L) true false true [] e w':=by
 have GU:=Lib.hid (show (((w.alloc (.cells #[.int .i64 p.kind,.int .u32 p.mine,.int .u32 p.AL,.int .u32 p.yours,.int .u32 p.seq,.int .u32 p.AX,.int .u32 p.stamp,.int .u32 p.echo,.complex .f64 p.zr p.zi,.slice Ab p.body.length cb] 27)).alloc (.cells #[.bool false,.bool false,.bool false,.slice none 0 0] 56))).heap[w.heap.size]? = some (.cells #[.int .i64 p.kind,.int .u32 p.mine,.int .u32 p.AL,.int .u32 p.yours,.int .u32 p.seq,.int .u32 p.AX,.int .u32 p.stamp,.int .u32 p.echo,.complex .f64 p.zr p.zi,.slice Ab p.body.length cb] 27 (0,0)) from (Below.heap_alloc _ _ _ (by simp)).trans (heap_alloc_new w _))
 have H:=Lib.hid h
 have OK:=Lib.hid hok
 have HS:=Lib.hid hS
 have EN:=Lib.hid hpr
 have FK:=Lib.hid hck
 have hbz:(AL == 0) = false:=by simp [hb0]
 have ES:=Lib.hid Ci
 clear Ci
 have IQ:=Lib.hid hag
 clear hag
 have Ez:=Lib.hid hkd
 clear hkd
 have hd3:(L.token == 4294967295) = true:=by simp [hmx]
 clear hmx hbr
 clear h hok hS hpr hck hb0
 go_enter Try.func34,Try.ntmps34
 go_wp2_with fail
 refine Ap 3 (fun C HC => ?_)
 go_wp2_with (first | ((with_reducible refine AV (N:=17) rfl ?_); (refine wpList_load_row rfl 27 (.tmp 5) rfl w.heap.size (by rfl) 27 #[.int .i64 p.kind,.int .u32 p.mine,.int .u32 p.AL,.int .u32 p.yours,.int .u32 p.seq,.int .u32 p.AX,.int .u32 p.stamp,.int .u32 p.echo,.complex .f64 p.zr p.zi,.slice Ab p.body.length cb] (0,0) _ GU.out Try.underlying27 rfl (by kernel_rfl) ?_)) | (go_at_call 20; (refine (check_any _ _ _ _ _ _ _ _ _ _ _ _ _ _ EN.out.zr EN.out.zi).mono ?_); (rintro e BF ⟨rfl,hb⟩); (rw [FK.out]); (have K0:=Lib.hid (TS.start (pc:=#[.int .i64 p.kind,.int .u32 p.mine,.int .u32 p.AL,.int .u32 p.yours,.int .u32 p.seq,.int .u32 p.AX,.int .u32 p.stamp,.int .u32 p.echo,.complex .f64 p.zr p.zi,.slice Ab p.body.length cb]) H.out HS.out hB (hb.mono (by simp)))); (clear hb); (have hl1:BF.cell? ⟨g,1,none⟩ = some (.int .i64 2):=(AA K0.out.at_.blk 1).trans (congrArg (fun x => some (Value.int .i64 x)) ES.out)); (have hp0:BF.cell? ⟨w.heap.size,0,none⟩ = some (.int .i64 1):=(AA K0.out.pb 0).trans (congrArg (fun x => some (Value.int .i64 x)) Ez.out)); (have hp1:BF.cell? ⟨w.heap.size,1,none⟩ = some (.int .u32 p.mine):=(AA K0.out.pb 1).trans rfl)) | (go_at_call 76; (refine (C9 K0.out.at_ AL p.mine).mono ?_); (rintro e w1 ⟨rfl,rfl⟩); (rw [IQ.out])) | ((with_reducible refine gate_ (.store 4 (.tmp 40) (.const (.bool true))) rfl ?_); (refine AY (fun wz => TS w B S g #[.int .i64 p.kind,.int .u32 p.mine,.int .u32 p.AL,.int .u32 p.yours,.int .u32 p.seq,.int .u32 p.AX,.int .u32 p.stamp,.int .u32 p.echo,.complex .f64 p.zr p.zi,.slice Ab p.body.length cb] Af Ac (fun _ => False) (L) q o true false false (.slice none 0 0) [] wz) rfl rfl ⟨_,(by have hz1:World.cell? BF ⟨w.heap.size + 1,0,none⟩ = some _:=(AA K0.out.tb 0).trans rfl; have hz2:=AB K0.out.tb 0; first | (go_simp; done) | (go_simp; rfl)),TS.EY K0.out hB 0 _ rfl⟩ (fun Bl hF => ?_)); (have K1:=Lib.hid hF); (clear hF); (clear hl1 hp0 hp1); (have hl1:Bl.cell? ⟨g,1,none⟩ = some (.int .i64 2):=(AA K1.out.at_.blk 1).trans (congrArg (fun x => some (Value.int .i64 x)) ES.out)); (have hp0:Bl.cell? ⟨w.heap.size,0,none⟩ = some (.int .i64 1):=(AA K1.out.pb 0).trans (congrArg (fun x => some (Value.int .i64 x)) Ez.out))))
 refine wp_goto ?_
 refine Jump.goto HC.out rfl ?_
 go_wp2_with (first | ((with_reducible refine gate_ (.store 4 (.tmp 89) (.const (.bool true))) rfl ?_); (refine AY (fun wz => TS w B S g #[.int .i64 p.kind,.int .u32 p.mine,.int .u32 p.AL,.int .u32 p.yours,.int .u32 p.seq,.int .u32 p.AX,.int .u32 p.stamp,.int .u32 p.echo,.complex .f64 p.zr p.zi,.slice Ab p.body.length cb] Af Ac (fun _ => False) (L) q o true false true (.slice none 0 0) [] wz) rfl rfl ⟨_,(by have hz1:World.cell? Bl ⟨w.heap.size + 1,2,none⟩ = some _:=(AA K1.out.tb 2).trans rfl; have hz2:=AB K1.out.tb 2; first | (go_simp; done) | (go_simp; rfl)),TS.EY K1.out hB 2 _ rfl⟩ (fun BG hF => ?_)); (have K2:=Lib.hid hF); (clear hF); (clear hl1 hp0); (have hl2:BG.cell? ⟨g,2,none⟩ = some (.int .u32 L.token):=(AA K2.out.at_.blk 2).trans rfl)) | (go_at_call 78; (refine (QM K2.out.at_).mono ?_); (rintro e CJ ⟨rfl,h1,hat⟩); (have K3:=Lib.hid (K2.out.WA hB hat h1 (fun _ hf => hf.elim))); (clear h1 hat); (clear hl2)))
 refine wp_goto ?_
 refine Jump.goto HC.out rfl ?_
 go_wp2_with (first | ((with_reducible refine AV (N:=207) rfl ?_); (refine wpList_load_row rfl 56 (.tmp 6) rfl (w.heap.size + 1) (by rfl) 56 _ (0,0) _ (by first | exact K3.out.tb | exact (K3.out.drewN hB _).tb) Try.underlying56 rfl (by kernel_rfl) ?_)) | ((with_reducible refine gate_ (.store 56 (.tmp 6) (.tmp 207)) rfl ?_); (refine Ae rfl rfl 56 (.tmp 6) (.tmp 207) rfl (w.heap.size + 1) _ rfl rfl 56 _ (by first | exact K3.out.tb | exact (K3.out.drewN hB _).tb) (by kernel_rfl) rfl (by kernel_rfl) ?_); (intro Dl EJ EF); (have hF:=TS.Ip (by first | exact K3.out | exact K3.out.drewN hB _ | exact K3.out.drew hB) hB EF EJ (by first | exact K3.out.Et | exact (K3.out.drewN hB _).Et) (by first | exact K3.out.okb | exact (K3.out.drewN hB _).okb)); (have K4:=Lib.hid hF); (clear hF EJ EF)))
 refine Jump.ret ?_
 refine bodyPost_ret ?_ rfl (K4.out.ends)
 exact Ag Try.results34 _ _ rfl rfl (run_loadVar_row (P:=Try.prog) _ (w.heap.size + 1) 56 56 _ (0,0) _ K4.out.tb Try.underlying56 rfl (by kernel_rfl))
theorem Oz {w:World} {B g:Nat} {Af Ac S:Nat → Prop} {L:Lk} {q o:Value} (h:At w B Af Ac g L q o) (hok:L.Ok) (hS:∀ k,holds Af Ac g k → S k) (hB:B ≤ w.heap.size) (AL:Int) (p:BJ) (Ab:Option Addr) (cb:Nat)
  (hb0:AL ≠ 0) (hbr:0 ≤ AL ∧ AL < 4294967296) (hpr:p.Jw) (hck:Ah p.kind p.mine p.AL p.yours p.seq p.AX p.stamp p.echo p.zr p.zi p.body.length = 0)  (Ci:L.phase = 2) (hag:Dj L AL p.mine = 1) (hkd:p.kind = 1) (hmx:¬ L.token = 4294967295) :
  Calls Try.prog 34 #[.pointer (some ⟨g,0,none⟩),.int .u32 AL,.agg #[.int .i64 p.kind,.int .u32 p.mine,.int .u32 p.AL,.int .u32 p.yours,.int .u32 p.seq,.int .u32 p.AX,.int .u32 p.stamp,.int .u32 p.echo,.complex .f64 p.zr p.zi,.slice Ab p.body.length cb]] w fun e w' => Ei w B S g (emit_ ({ EK L with AL:=AL,yours:=p.mine,known:=true }) (CY ({ EK L with AL:=AL,yours:=p.mine,known:=true }))) true false true [] e w':=by
 have GU:=Lib.hid (show (((w.alloc (.cells #[.int .i64 p.kind,.int .u32 p.mine,.int .u32 p.AL,.int .u32 p.yours,.int .u32 p.seq,.int .u32 p.AX,.int .u32 p.stamp,.int .u32 p.echo,.complex .f64 p.zr p.zi,.slice Ab p.body.length cb] 27)).alloc (.cells #[.bool false,.bool false,.bool false,.slice none 0 0] 56))).heap[w.heap.size]? = some (.cells #[.int .i64 p.kind,.int .u32 p.mine,.int .u32 p.AL,.int .u32 p.yours,.int .u32 p.seq,.int .u32 p.AX,.int .u32 p.stamp,.int .u32 p.echo,.complex .f64 p.zr p.zi,.slice Ab p.body.length cb] 27 (0,0)) from (Below.heap_alloc _ _ _ (by simp)).trans (heap_alloc_new w _))
 have H:=Lib.hid h
 have OK:=Lib.hid hok
 have HS:=Lib.hid hS
 have EN:=Lib.hid hpr
 have FK:=Lib.hid hck
 have hbz:(AL == 0) = false:=by simp [hb0]
 have ES:=Lib.hid Ci
 clear Ci
 have IQ:=Lib.hid hag
 clear hag
 have Ez:=Lib.hid hkd
 clear hkd
 have hd3:(L.token == 4294967295) = false:=by simp [hmx]
 have htk:L.token < 4294967295:=by have:=OK.out.token; omega
 have WC:=Lib.hid htk
 clear htk
 have Zw:=Lib.hid (Jh (Jt OK.out WC.out) hbr EN.out.mine true)
 clear hmx hbr
 clear h hok hS hpr hck hb0
 go_enter Try.func34,Try.ntmps34
 go_wp2_with fail
 refine Ap 3 (fun C HC => ?_)
 go_wp2_with (first | ((with_reducible refine AV (N:=17) rfl ?_); (refine wpList_load_row rfl 27 (.tmp 5) rfl w.heap.size (by rfl) 27 #[.int .i64 p.kind,.int .u32 p.mine,.int .u32 p.AL,.int .u32 p.yours,.int .u32 p.seq,.int .u32 p.AX,.int .u32 p.stamp,.int .u32 p.echo,.complex .f64 p.zr p.zi,.slice Ab p.body.length cb] (0,0) _ GU.out Try.underlying27 rfl (by kernel_rfl) ?_)) | (go_at_call 20; (refine (check_any _ _ _ _ _ _ _ _ _ _ _ _ _ _ EN.out.zr EN.out.zi).mono ?_); (rintro e BF ⟨rfl,hb⟩); (rw [FK.out]); (have K0:=Lib.hid (TS.start (pc:=#[.int .i64 p.kind,.int .u32 p.mine,.int .u32 p.AL,.int .u32 p.yours,.int .u32 p.seq,.int .u32 p.AX,.int .u32 p.stamp,.int .u32 p.echo,.complex .f64 p.zr p.zi,.slice Ab p.body.length cb]) H.out HS.out hB (hb.mono (by simp)))); (clear hb); (have hl1:BF.cell? ⟨g,1,none⟩ = some (.int .i64 2):=(AA K0.out.at_.blk 1).trans (congrArg (fun x => some (Value.int .i64 x)) ES.out)); (have hp0:BF.cell? ⟨w.heap.size,0,none⟩ = some (.int .i64 1):=(AA K0.out.pb 0).trans (congrArg (fun x => some (Value.int .i64 x)) Ez.out)); (have hp1:BF.cell? ⟨w.heap.size,1,none⟩ = some (.int .u32 p.mine):=(AA K0.out.pb 1).trans rfl)) | (go_at_call 76; (refine (C9 K0.out.at_ AL p.mine).mono ?_); (rintro e w1 ⟨rfl,rfl⟩); (rw [IQ.out])) | ((with_reducible refine gate_ (.store 4 (.tmp 40) (.const (.bool true))) rfl ?_); (refine AY (fun wz => TS w B S g #[.int .i64 p.kind,.int .u32 p.mine,.int .u32 p.AL,.int .u32 p.yours,.int .u32 p.seq,.int .u32 p.AX,.int .u32 p.stamp,.int .u32 p.echo,.complex .f64 p.zr p.zi,.slice Ab p.body.length cb] Af Ac (fun _ => False) (L) q o true false false (.slice none 0 0) [] wz) rfl rfl ⟨_,(by have hz1:World.cell? BF ⟨w.heap.size + 1,0,none⟩ = some _:=(AA K0.out.tb 0).trans rfl; have hz2:=AB K0.out.tb 0; first | (go_simp; done) | (go_simp; rfl)),TS.EY K0.out hB 0 _ rfl⟩ (fun Bl hF => ?_)); (have K1:=Lib.hid hF); (clear hF); (clear hl1 hp0 hp1); (have hl1:Bl.cell? ⟨g,1,none⟩ = some (.int .i64 2):=(AA K1.out.at_.blk 1).trans (congrArg (fun x => some (Value.int .i64 x)) ES.out)); (have hp0:Bl.cell? ⟨w.heap.size,0,none⟩ = some (.int .i64 1):=(AA K1.out.pb 0).trans (congrArg (fun x => some (Value.int .i64 x)) Ez.out))))
 refine wp_goto ?_
 refine Jump.goto HC.out rfl ?_
 go_wp2_with (first | ((with_reducible refine gate_ (.store 4 (.tmp 89) (.const (.bool true))) rfl ?_); (refine AY (fun wz => TS w B S g #[.int .i64 p.kind,.int .u32 p.mine,.int .u32 p.AL,.int .u32 p.yours,.int .u32 p.seq,.int .u32 p.AX,.int .u32 p.stamp,.int .u32 p.echo,.complex .f64 p.zr p.zi,.slice Ab p.body.length cb] Af Ac (fun _ => False) (L) q o true false true (.slice none 0 0) [] wz) rfl rfl ⟨_,(by have hz1:World.cell? Bl ⟨w.heap.size + 1,2,none⟩ = some _:=(AA K1.out.tb 2).trans rfl; have hz2:=AB K1.out.tb 2; first | (go_simp; done) | (go_simp; rfl)),TS.EY K1.out hB 2 _ rfl⟩ (fun BG hF => ?_)); (have K2:=Lib.hid hF); (clear hF); (clear hl1 hp0); (have hl2:BG.cell? ⟨g,2,none⟩ = some (.int .u32 L.token):=(AA K2.out.at_.blk 2).trans rfl)) | (go_at_call 72; (refine (NJ K2.out.at_ OK.out WC.out).mono ?_); (rintro e CJ ⟨rfl,h1,hat⟩); (have K3:=Lib.hid (K2.out.WA hB hat h1 (fun _ hf => hf.elim))); (clear h1 hat); (clear hl2)))
 have hSS:CJ.drew.heap[w.heap.size]? = some (.cells #[.int .i64 p.kind,.int .u32 p.mine,.int .u32 p.AL,.int .u32 p.yours,.int .u32 p.seq,.int .u32 p.AX,.int .u32 p.stamp,.int .u32 p.echo,.complex .f64 p.zr p.zi,.slice Ab p.body.length cb] 27 (0,0)):=K3.out.pb
 have hts:=K3.out.drew hB
 refine Aw (n:=15) (S:=fun w' => w'.heap[w.heap.size]? = some (.cells #[.int .i64 p.kind,.int .u32 p.mine,.int .u32 p.AL,.int .u32 p.yours,.int .u32 p.seq,.int .u32 p.AX,.int .u32 p.stamp,.int .u32 p.echo,.complex .f64 p.zr p.zi,.slice Ab p.body.length cb] 27 (0,0))) (ds:=[]) jF (by kernel_rfl) rfl rfl (hSS) (fun hHeld => ?_)
 generalize CJ.drew = kH at hts hHeld ⊢
 have kJ:=Lib.hid hts
 clear hts hSS
 refine pu 0 99 jG ?_
 refine pu 1 100 jH ?_
 refine pu 2 101 jI ?_
 refine pu 3 102 jJ ?_
 refine pu 4 103 jK ?_
 refine tk 5 104 jL hHeld ?_ (hf:=by intro w' s0; have hp1:w'.cell? ⟨w.heap.size,1,none⟩ = some (.int .u32 p.mine):=(AA s0 1).trans rfl; clear s0; go_simp; with_reducible rfl)
 refine pu 6 105 jM ?_
 refine pu 7 106 jO ?_
 refine on 8 none jP fun K hK => ?_
 have hz1:kH.cell? ⟨g,3,none⟩ = some _:=(AA kJ.out.at_.blk 3).trans rfl
 have hz2:=AB kJ.out.at_.blk 3
 refine BO (fun wz => TS w B S g #[.int .i64 p.kind,.int .u32 p.mine,.int .u32 p.AL,.int .u32 p.yours,.int .u32 p.seq,.int .u32 p.AX,.int .u32 p.stamp,.int .u32 p.echo,.complex .f64 p.zr p.zi,.slice Ab p.body.length cb] (fun _ => False) Ac (fun _ => False) ({ EK L with AL:=AL }) (.slice none 0 0) o true false true (.slice none 0 0) [] wz) (by rfl) rfl ⟨_,by first | (go_simp; done) | (go_simp; rfl),TS.Dz kJ.out hB 3 _ rfl rfl rfl⟩ (fun ED hF => ?_)
 have K5:=Lib.hid hF
 clear hF hz1 hz2 hHeld
 refine hK.out _ _ K5.out.pb (fun hHeld => ?_)
 clear hK K
 refine pu 9 107 jQ ?_
 refine pu 10 108 jR ?_
 refine on 11 none jS fun K hK => ?_
 have hz1:ED.cell? ⟨g,4,none⟩ = some _:=(AA K5.out.at_.blk 4).trans rfl
 have hz2:=AB K5.out.at_.blk 4
 refine BO (fun wz => TS w B S g #[.int .i64 p.kind,.int .u32 p.mine,.int .u32 p.AL,.int .u32 p.yours,.int .u32 p.seq,.int .u32 p.AX,.int .u32 p.stamp,.int .u32 p.echo,.complex .f64 p.zr p.zi,.slice Ab p.body.length cb] (fun _ => False) Ac (fun _ => False) ({ EK L with AL:=AL,yours:=p.mine }) (.slice none 0 0) o true false true (.slice none 0 0) [] wz) (by rfl) rfl ⟨_,by first | (go_simp; done) | (go_simp; rfl),TS.Dz K5.out hB 4 _ rfl rfl rfl⟩ (fun IM hF => ?_)
 have K6:=Lib.hid hF
 clear hF hz1 hz2 hHeld
 refine hK.out _ _ K6.out.pb (fun hHeld => ?_)
 clear hK K
 refine pu 12 109 jT ?_
 refine pu 13 110 jU ?_
 refine on 14 none jV fun K hK => ?_
 have hz1:IM.cell? ⟨g,5,none⟩ = some _:=(AA K6.out.at_.blk 5).trans rfl
 have hz2:=AB K6.out.at_.blk 5
 refine BO (fun wz => TS w B S g #[.int .i64 p.kind,.int .u32 p.mine,.int .u32 p.AL,.int .u32 p.yours,.int .u32 p.seq,.int .u32 p.AX,.int .u32 p.stamp,.int .u32 p.echo,.complex .f64 p.zr p.zi,.slice Ab p.body.length cb] (fun _ => False) Ac (fun _ => False) ({ EK L with AL:=AL,yours:=p.mine,known:=true }) (.slice none 0 0) o true false true (.slice none 0 0) [] wz) (by rfl) rfl ⟨_,by first | (go_simp; done) | (go_simp; rfl),TS.Dz K6.out hB 5 _ rfl rfl rfl⟩ (fun Hz hF => ?_)
 have K7:=Lib.hid hF
 clear hF hz1 hz2 hHeld
 refine hK.out _ _ K7.out.pb (fun hHeld => ?_)
 clear hK K
 refine BN (by kernel_rfl) ?_
 clear hHeld
 go_wp2_with (first | (go_at_call 73; (refine (F7 K7.out.at_ (Zw.out) (Nat.le_trans hB K7.out.kept.1)).mono ?_); (rintro e NK ⟨rfl,hE⟩); (obtain ⟨kK,yV,hF⟩:=TS.Gx K7.out hB hE); (clear hE); (have K8:=Lib.hid hF); (clear hF)))
 refine wp_goto ?_
 refine Jump.goto HC.out rfl ?_
 go_wp2_with (first | ((with_reducible refine AV (N:=207) rfl ?_); (refine wpList_load_row rfl 56 (.tmp 6) rfl (w.heap.size + 1) (by rfl) 56 _ (0,0) _ (by first | exact K8.out.tb | exact (K8.out.drewN hB _).tb) Try.underlying56 rfl (by kernel_rfl) ?_)) | ((with_reducible refine gate_ (.store 56 (.tmp 6) (.tmp 207)) rfl ?_); (refine Ae rfl rfl 56 (.tmp 6) (.tmp 207) rfl (w.heap.size + 1) _ rfl rfl 56 _ (by first | exact K8.out.tb | exact (K8.out.drewN hB _).tb) (by kernel_rfl) rfl (by kernel_rfl) ?_); (intro WB EJ EF); (have hF:=TS.Ip (by first | exact K8.out | exact K8.out.drewN hB _ | exact K8.out.drew hB) hB EF EJ (by first | exact K8.out.Et | exact (K8.out.drewN hB _).Et) (by first | exact K8.out.okb | exact (K8.out.drewN hB _).okb)); (have K9:=Lib.hid hF); (clear hF EJ EF)))
 refine Jump.ret ?_
 refine bodyPost_ret ?_ rfl (K9.out.ends)
 exact Ag Try.results34 _ _ rfl rfl (run_loadVar_row (P:=Try.prog) _ (w.heap.size + 1) 56 56 _ (0,0) _ K9.out.tb Try.underlying56 rfl (by kernel_rfl))
theorem UK {w:World} {B g:Nat} {Af Ac S:Nat → Prop} {L:Lk} {q o:Value} (h:At w B Af Ac g L q o) (hok:L.Ok) (hS:∀ k,holds Af Ac g k → S k) (hB:B ≤ w.heap.size) (AL:Int) (p:BJ) (Ab:Option Addr) (cb:Nat)
  (hb0:AL ≠ 0) (hbr:0 ≤ AL ∧ AL < 4294967296) (hpr:p.Jw) (hck:Ah p.kind p.mine p.AL p.yours p.seq p.AX p.stamp p.echo p.zr p.zi p.body.length = 0)  (Ci:L.phase = 1) (hag:0 ≤ Dj L AL p.mine) (hkn:p.kind ≠ 1) :
  Calls Try.prog 34 #[.pointer (some ⟨g,0,none⟩),.int .u32 AL,.agg #[.int .i64 p.kind,.int .u32 p.mine,.int .u32 p.AL,.int .u32 p.yours,.int .u32 p.seq,.int .u32 p.AX,.int .u32 p.stamp,.int .u32 p.echo,.complex .f64 p.zr p.zi,.slice Ab p.body.length cb]] w fun e w' => Ei w B S g (L) false false false [] e w':=by
 have GU:=Lib.hid (show (((w.alloc (.cells #[.int .i64 p.kind,.int .u32 p.mine,.int .u32 p.AL,.int .u32 p.yours,.int .u32 p.seq,.int .u32 p.AX,.int .u32 p.stamp,.int .u32 p.echo,.complex .f64 p.zr p.zi,.slice Ab p.body.length cb] 27)).alloc (.cells #[.bool false,.bool false,.bool false,.slice none 0 0] 56))).heap[w.heap.size]? = some (.cells #[.int .i64 p.kind,.int .u32 p.mine,.int .u32 p.AL,.int .u32 p.yours,.int .u32 p.seq,.int .u32 p.AX,.int .u32 p.stamp,.int .u32 p.echo,.complex .f64 p.zr p.zi,.slice Ab p.body.length cb] 27 (0,0)) from (Below.heap_alloc _ _ _ (by simp)).trans (heap_alloc_new w _))
 have H:=Lib.hid h
 have OK:=Lib.hid hok
 have HS:=Lib.hid hS
 have EN:=Lib.hid hpr
 have FK:=Lib.hid hck
 have hbz:(AL == 0) = false:=by simp [hb0]
 have ES:=Lib.hid Ci
 clear Ci
 have hd2:decide (Dj L AL p.mine < 0) = false:=by simp; omega
 clear hag hbr
 have hd4:(p.kind == 1) = false:=by simp [hkn]
 clear hkn
 clear h hok hS hpr hck hb0
 go_enter Try.func34,Try.ntmps34
 go_wp2_with fail
 refine Ap 3 (fun C HC => ?_)
 go_wp2_with (first | ((with_reducible refine AV (N:=17) rfl ?_); (refine wpList_load_row rfl 27 (.tmp 5) rfl w.heap.size (by rfl) 27 #[.int .i64 p.kind,.int .u32 p.mine,.int .u32 p.AL,.int .u32 p.yours,.int .u32 p.seq,.int .u32 p.AX,.int .u32 p.stamp,.int .u32 p.echo,.complex .f64 p.zr p.zi,.slice Ab p.body.length cb] (0,0) _ GU.out Try.underlying27 rfl (by kernel_rfl) ?_)) | (go_at_call 20; (refine (check_any _ _ _ _ _ _ _ _ _ _ _ _ _ _ EN.out.zr EN.out.zi).mono ?_); (rintro e BF ⟨rfl,hb⟩); (rw [FK.out]); (have K0:=Lib.hid (TS.start (pc:=#[.int .i64 p.kind,.int .u32 p.mine,.int .u32 p.AL,.int .u32 p.yours,.int .u32 p.seq,.int .u32 p.AX,.int .u32 p.stamp,.int .u32 p.echo,.complex .f64 p.zr p.zi,.slice Ab p.body.length cb]) H.out HS.out hB (hb.mono (by simp)))); (clear hb); (have hl1:BF.cell? ⟨g,1,none⟩ = some (.int .i64 1):=(AA K0.out.at_.blk 1).trans (congrArg (fun x => some (Value.int .i64 x)) ES.out)); (have hp0:BF.cell? ⟨w.heap.size,0,none⟩ = some (.int .i64 p.kind):=(AA K0.out.pb 0).trans rfl); (have hp1:BF.cell? ⟨w.heap.size,1,none⟩ = some (.int .u32 p.mine):=(AA K0.out.pb 1).trans rfl)) | (go_at_call 76; (refine (C9 K0.out.at_ AL p.mine).mono ?_); (rintro e w1 ⟨rfl,rfl⟩); (skip)))
 exact Z6
theorem UL {w:World} {B g:Nat} {Af Ac S:Nat → Prop} {L:Lk} {q o:Value} (h:At w B Af Ac g L q o) (hok:L.Ok) (hS:∀ k,holds Af Ac g k → S k) (hB:B ≤ w.heap.size) (AL:Int) (p:BJ) (Ab:Option Addr) (cb:Nat)
  (hb0:AL ≠ 0) (hbr:0 ≤ AL ∧ AL < 4294967296) (hpr:p.Jw) (hck:Ah p.kind p.mine p.AL p.yours p.seq p.AX p.stamp p.echo p.zr p.zi p.body.length = 0)  (Ci:L.phase = 2) (hag:Dj L AL p.mine = 1) (hkn:p.kind ≠ 1) :
  Calls Try.prog 34 #[.pointer (some ⟨g,0,none⟩),.int .u32 AL,.agg #[.int .i64 p.kind,.int .u32 p.mine,.int .u32 p.AL,.int .u32 p.yours,.int .u32 p.seq,.int .u32 p.AX,.int .u32 p.stamp,.int .u32 p.echo,.complex .f64 p.zr p.zi,.slice Ab p.body.length cb]] w fun e w' => Ei w B S g (L) false false false [] e w':=by
 have GU:=Lib.hid (show (((w.alloc (.cells #[.int .i64 p.kind,.int .u32 p.mine,.int .u32 p.AL,.int .u32 p.yours,.int .u32 p.seq,.int .u32 p.AX,.int .u32 p.stamp,.int .u32 p.echo,.complex .f64 p.zr p.zi,.slice Ab p.body.length cb] 27)).alloc (.cells #[.bool false,.bool false,.bool false,.slice none 0 0] 56))).heap[w.heap.size]? = some (.cells #[.int .i64 p.kind,.int .u32 p.mine,.int .u32 p.AL,.int .u32 p.yours,.int .u32 p.seq,.int .u32 p.AX,.int .u32 p.stamp,.int .u32 p.echo,.complex .f64 p.zr p.zi,.slice Ab p.body.length cb] 27 (0,0)) from (Below.heap_alloc _ _ _ (by simp)).trans (heap_alloc_new w _))
 have H:=Lib.hid h
 have OK:=Lib.hid hok
 have HS:=Lib.hid hS
 have EN:=Lib.hid hpr
 have FK:=Lib.hid hck
 have hbz:(AL == 0) = false:=by simp [hb0]
 have ES:=Lib.hid Ci
 clear Ci
 have IQ:=Lib.hid hag
 clear hag
 clear hbr
 have hd4:(p.kind == 1) = false:=by simp [hkn]
 clear hkn
 clear h hok hS hpr hck hb0
 go_enter Try.func34,Try.ntmps34
 go_wp2_with fail
 refine Ap 3 (fun C HC => ?_)
 go_wp2_with (first | ((with_reducible refine AV (N:=17) rfl ?_); (refine wpList_load_row rfl 27 (.tmp 5) rfl w.heap.size (by rfl) 27 #[.int .i64 p.kind,.int .u32 p.mine,.int .u32 p.AL,.int .u32 p.yours,.int .u32 p.seq,.int .u32 p.AX,.int .u32 p.stamp,.int .u32 p.echo,.complex .f64 p.zr p.zi,.slice Ab p.body.length cb] (0,0) _ GU.out Try.underlying27 rfl (by kernel_rfl) ?_)) | (go_at_call 20; (refine (check_any _ _ _ _ _ _ _ _ _ _ _ _ _ _ EN.out.zr EN.out.zi).mono ?_); (rintro e BF ⟨rfl,hb⟩); (rw [FK.out]); (have K0:=Lib.hid (TS.start (pc:=#[.int .i64 p.kind,.int .u32 p.mine,.int .u32 p.AL,.int .u32 p.yours,.int .u32 p.seq,.int .u32 p.AX,.int .u32 p.stamp,.int .u32 p.echo,.complex .f64 p.zr p.zi,.slice Ab p.body.length cb]) H.out HS.out hB (hb.mono (by simp)))); (clear hb); (have hl1:BF.cell? ⟨g,1,none⟩ = some (.int .i64 2):=(AA K0.out.at_.blk 1).trans (congrArg (fun x => some (Value.int .i64 x)) ES.out)); (have hp0:BF.cell? ⟨w.heap.size,0,none⟩ = some (.int .i64 p.kind):=(AA K0.out.pb 0).trans rfl); (have hp1:BF.cell? ⟨w.heap.size,1,none⟩ = some (.int .u32 p.mine):=(AA K0.out.pb 1).trans rfl)) | (go_at_call 76; (refine (C9 K0.out.at_ AL p.mine).mono ?_); (rintro e w1 ⟨rfl,rfl⟩); (rw [IQ.out])))
 exact Z6
theorem UM {w:World} {B g:Nat} {Af Ac S:Nat → Prop} {L:Lk} {q o:Value} (h:At w B Af Ac g L q o) (hok:L.Ok) (hS:∀ k,holds Af Ac g k → S k) (hB:B ≤ w.heap.size) (AL:Int) (p:BJ) (Ab:Option Addr) (cb:Nat)
  (hb0:AL ≠ 0) (hbr:0 ≤ AL ∧ AL < 4294967296) (hpr:p.Jw) (hck:Ah p.kind p.mine p.AL p.yours p.seq p.AX p.stamp p.echo p.zr p.zi p.body.length = 0)  (Ci:L.phase = 2) (hag:Dj L AL p.mine = 0) (hkn:p.kind ≠ 1) (hmn:BU L p = false) :
  Calls Try.prog 34 #[.pointer (some ⟨g,0,none⟩),.int .u32 AL,.agg #[.int .i64 p.kind,.int .u32 p.mine,.int .u32 p.AL,.int .u32 p.yours,.int .u32 p.seq,.int .u32 p.AX,.int .u32 p.stamp,.int .u32 p.echo,.complex .f64 p.zr p.zi,.slice Ab p.body.length cb]] w fun e w' => Ei w B S g (L) false false false [] e w':=by
 have GU:=Lib.hid (show (((w.alloc (.cells #[.int .i64 p.kind,.int .u32 p.mine,.int .u32 p.AL,.int .u32 p.yours,.int .u32 p.seq,.int .u32 p.AX,.int .u32 p.stamp,.int .u32 p.echo,.complex .f64 p.zr p.zi,.slice Ab p.body.length cb] 27)).alloc (.cells #[.bool false,.bool false,.bool false,.slice none 0 0] 56))).heap[w.heap.size]? = some (.cells #[.int .i64 p.kind,.int .u32 p.mine,.int .u32 p.AL,.int .u32 p.yours,.int .u32 p.seq,.int .u32 p.AX,.int .u32 p.stamp,.int .u32 p.echo,.complex .f64 p.zr p.zi,.slice Ab p.body.length cb] 27 (0,0)) from (Below.heap_alloc _ _ _ (by simp)).trans (heap_alloc_new w _))
 have H:=Lib.hid h
 have OK:=Lib.hid hok
 have HS:=Lib.hid hS
 have EN:=Lib.hid hpr
 have FK:=Lib.hid hck
 have hbz:(AL == 0) = false:=by simp [hb0]
 have ES:=Lib.hid Ci
 clear Ci
 have IQ:=Lib.hid hag
 clear hag
 clear hbr
 have I5:=Lib.hid hmn
 clear hmn
 have hd4:(p.kind == 1) = false:=by simp [hkn]
 clear hkn
 clear h hok hS hpr hck hb0
 go_enter Try.func34,Try.ntmps34
 go_wp2_with fail
 refine Ap 3 (fun C HC => ?_)
 go_wp2_with (first | ((with_reducible refine AV (N:=17) rfl ?_); (refine wpList_load_row rfl 27 (.tmp 5) rfl w.heap.size (by rfl) 27 #[.int .i64 p.kind,.int .u32 p.mine,.int .u32 p.AL,.int .u32 p.yours,.int .u32 p.seq,.int .u32 p.AX,.int .u32 p.stamp,.int .u32 p.echo,.complex .f64 p.zr p.zi,.slice Ab p.body.length cb] (0,0) _ GU.out Try.underlying27 rfl (by kernel_rfl) ?_)) | (go_at_call 20; (refine (check_any _ _ _ _ _ _ _ _ _ _ _ _ _ _ EN.out.zr EN.out.zi).mono ?_); (rintro e BF ⟨rfl,hb⟩); (rw [FK.out]); (have K0:=Lib.hid (TS.start (pc:=#[.int .i64 p.kind,.int .u32 p.mine,.int .u32 p.AL,.int .u32 p.yours,.int .u32 p.seq,.int .u32 p.AX,.int .u32 p.stamp,.int .u32 p.echo,.complex .f64 p.zr p.zi,.slice Ab p.body.length cb]) H.out HS.out hB (hb.mono (by simp)))); (clear hb); (have hl1:BF.cell? ⟨g,1,none⟩ = some (.int .i64 2):=(AA K0.out.at_.blk 1).trans (congrArg (fun x => some (Value.int .i64 x)) ES.out)); (have hp0:BF.cell? ⟨w.heap.size,0,none⟩ = some (.int .i64 p.kind):=(AA K0.out.pb 0).trans rfl); (have hp1:BF.cell? ⟨w.heap.size,1,none⟩ = some (.int .u32 p.mine):=(AA K0.out.pb 1).trans rfl)) | (go_at_call 76; (refine (C9 K0.out.at_ AL p.mine).mono ?_); (rintro e w1 ⟨rfl,rfl⟩); (rw [IQ.out])) | ((with_reducible refine AV (N:=59) rfl ?_); (refine Cf (by rfl) ?_); (refine wpList_load_row rfl 27 (.tmp 5) rfl w.heap.size (by rfl) 27 _ (0,0) _ (by first | exact K0.out.pb | exact (K0.out.drewN hB _).pb) Try.underlying27 rfl (by kernel_rfl) ?_)) | (go_at_call 77; (refine (DV K0.out.at_ p (.slice Ab p.body.length cb)).mono ?_); (rintro e Bl ⟨rfl,hb⟩); (have hme:BU (L) p = false:=I5.out); (rw [hme]); (clear hme); (have K1:=Lib.hid (K0.out.sub hB hb)); (clear hb); (clear hl1 hp0 hp1)))
 exact pV
end Go.Proofs.Ytnkkgofpifhoeaa.Lk
end
