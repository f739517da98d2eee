/- What the laws of a pair are proved with: links and pairs in memory, what their methods do, what a pair keeps to (part 15). -/
import Derived.Test.YtnkkgofpifhoeaaPF14
set_option linter.unusedSimpArgs false
set_option linter.unusedVariables false
set_option maxRecDepth 100000
set_option maxHeartbeats 16000000
namespace Go.Proofs.Ytnkkgofpifhoeaa
theorem Z5 {p:Prop} (h:p:=by
 refine wp_goto ?_
 refine Jump.goto HC.out rfl ?_
 go_wp2_with (first | ((with_reducible refine AV (N:=207) rfl ?_); (refine wpList_load_row rfl 56 (.tmp 6) rfl (w.heap.size + 1) (by rfl) 56 _ (0,0) _ (by first | exact K0.out.tb | exact (K0.out.drewN hB _).tb) Try.underlying56 rfl (by kernel_rfl) ?_)) | ((with_reducible refine gate_ (.store 56 (.tmp 6) (.tmp 207)) rfl ?_); (refine Ae rfl rfl 56 (.tmp 6) (.tmp 207) rfl (w.heap.size + 1) _ rfl rfl 56 _ (by first | exact K0.out.tb | exact (K0.out.drewN hB _).tb) (by kernel_rfl) rfl (by kernel_rfl) ?_); (intro CQ ED D7); (have hF:=TS.IA (by first | exact K0.out | exact K0.out.drewN hB _ | exact K0.out.drew hB) hB D7 ED (by first | exact K0.out.Ea | exact (K0.out.drewN hB _).Ea) (by first | exact K0.out.okb | exact (K0.out.drewN hB _).okb)); (have K1:=Lib.hid hF); (clear hF ED D7)))
 refine Jump.ret ?_
 refine bodyPost_ret ?_ rfl (K1.out.ends)
 exact Ag Try.results34 _ _ rfl rfl (run_loadVar_row (P:=Try.prog) _ (w.heap.size + 1) 56 56 _ (0,0) _ K1.out.tb Try.underlying56 rfl (by kernel_rfl))):p:=h
theorem jS {p:Prop} (h:p:=by
 go_wp2_with (first | ((with_reducible refine AV (N:=207) rfl ?_); (refine wpList_load_row rfl 56 (.tmp 6) rfl (w.heap.size + 1) (by rfl) 56 _ (0,0) _ (by first | exact K9.out.tb | exact (K9.out.drewN hB _).tb) Try.underlying56 rfl (by kernel_rfl) ?_)) | ((with_reducible refine gate_ (.store 56 (.tmp 6) (.tmp 207)) rfl ?_); (refine Ae rfl rfl 56 (.tmp 6) (.tmp 207) rfl (w.heap.size + 1) _ rfl rfl 56 _ (by first | exact K9.out.tb | exact (K9.out.drewN hB _).tb) (by kernel_rfl) rfl (by kernel_rfl) ?_); (intro PD ED D7); (have hF:=TS.IA (by first | exact K9.out | exact K9.out.drewN hB _ | exact K9.out.drew hB) hB D7 ED (by first | exact K9.out.Ea | exact (K9.out.drewN hB _).Ea) (by first | exact K9.out.okb | exact (K9.out.drewN hB _).okb)); (have K10:=Lib.hid hF); (clear hF ED D7)))
 refine Jump.ret ?_
 refine bodyPost_ret ?_ rfl (K10.out.ends)
 exact Ag Try.results34 _ _ rfl rfl (run_loadVar_row (P:=Try.prog) _ (w.heap.size + 1) 56 56 _ (0,0) _ K10.out.tb Try.underlying56 rfl (by kernel_rfl))):p:=h
theorem jT {p:Prop} (h:p:=by
 go_wp2_with (first | ((with_reducible refine AV (N:=207) rfl ?_); (refine wpList_load_row rfl 56 (.tmp 6) rfl (w.heap.size + 1) (by rfl) 56 _ (0,0) _ (by first | exact K7.out.tb | exact (K7.out.drewN hB _).tb) Try.underlying56 rfl (by kernel_rfl) ?_)) | ((with_reducible refine gate_ (.store 56 (.tmp 6) (.tmp 207)) rfl ?_); (refine Ae rfl rfl 56 (.tmp 6) (.tmp 207) rfl (w.heap.size + 1) _ rfl rfl 56 _ (by first | exact K7.out.tb | exact (K7.out.drewN hB _).tb) (by kernel_rfl) rfl (by kernel_rfl) ?_); (intro MC ED D7); (have hF:=TS.IA (by first | exact K7.out | exact K7.out.drewN hB _ | exact K7.out.drew hB) hB D7 ED (by first | exact K7.out.Ea | exact (K7.out.drewN hB _).Ea) (by first | exact K7.out.okb | exact (K7.out.drewN hB _).okb)); (have K8:=Lib.hid hF); (clear hF ED D7)))
 refine Jump.ret ?_
 refine bodyPost_ret ?_ rfl (K8.out.ends)
 exact Ag Try.results34 _ _ rfl rfl (run_loadVar_row (P:=Try.prog) _ (w.heap.size + 1) 56 56 _ (0,0) _ K8.out.tb Try.underlying56 rfl (by kernel_rfl))):p:=h
theorem Z9 {p:Prop} (h:p:=by
 go_wp2_with (first | ((with_reducible refine AV (N:=207) rfl ?_); (refine wpList_load_row rfl 56 (.tmp 6) rfl (w.heap.size + 1) (by rfl) 56 _ (0,0) _ (by first | exact K2.out.tb | exact (K2.out.drewN hB _).tb) Try.underlying56 rfl (by kernel_rfl) ?_)) | ((with_reducible refine gate_ (.store 56 (.tmp 6) (.tmp 207)) rfl ?_); (refine Ae rfl rfl 56 (.tmp 6) (.tmp 207) rfl (w.heap.size + 1) _ rfl rfl 56 _ (by first | exact K2.out.tb | exact (K2.out.drewN hB _).tb) (by kernel_rfl) rfl (by kernel_rfl) ?_); (intro CE ED D7); (have hF:=TS.IA (by first | exact K2.out | exact K2.out.drewN hB _ | exact K2.out.drew hB) hB D7 ED (by first | exact K2.out.Ea | exact (K2.out.drewN hB _).Ea) (by first | exact K2.out.okb | exact (K2.out.drewN hB _).okb)); (have K3:=Lib.hid hF); (clear hF ED D7)))
 refine Jump.ret ?_
 refine bodyPost_ret ?_ rfl (K3.out.ends)
 exact Ag Try.results34 _ _ rfl rfl (run_loadVar_row (P:=Try.prog) _ (w.heap.size + 1) 56 56 _ (0,0) _ K3.out.tb Try.underlying56 rfl (by kernel_rfl))):p:=h
theorem jU {p:Prop} (h:p:=by
 refine wp_goto ?_
 refine Jump.goto HC.out rfl ?_
 go_wp2_with (first | ((with_reducible refine AV (N:=207) rfl ?_); (refine wpList_load_row rfl 56 (.tmp 6) rfl (w.heap.size + 1) (by rfl) 56 _ (0,0) _ (by first | exact K1.out.tb | exact (K1.out.drewN hB _).tb) Try.underlying56 rfl (by kernel_rfl) ?_)) | ((with_reducible refine gate_ (.store 56 (.tmp 6) (.tmp 207)) rfl ?_); (refine Ae rfl rfl 56 (.tmp 6) (.tmp 207) rfl (w.heap.size + 1) _ rfl rfl 56 _ (by first | exact K1.out.tb | exact (K1.out.drewN hB _).tb) (by kernel_rfl) rfl (by kernel_rfl) ?_); (intro BM ED D7); (have hF:=TS.IA (by first | exact K1.out | exact K1.out.drewN hB _ | exact K1.out.drew hB) hB D7 ED (by first | exact K1.out.Ea | exact (K1.out.drewN hB _).Ea) (by first | exact K1.out.okb | exact (K1.out.drewN hB _).okb)); (have K2:=Lib.hid hF); (clear hF ED D7)))
 refine Jump.ret ?_
 refine bodyPost_ret ?_ rfl (K2.out.ends)
 exact Ag Try.results34 _ _ rfl rfl (run_loadVar_row (P:=Try.prog) _ (w.heap.size + 1) 56 56 _ (0,0) _ K2.out.tb Try.underlying56 rfl (by kernel_rfl))):p:=h
end Go.Proofs.Ytnkkgofpifhoeaa
section
namespace Go.Proofs.Ytnkkgofpifhoeaa.Lk
open Go.RowKit Go.Proofs.Ytnkkgofpifhoeaa.Base Go.Proofs.Ytnkkgofpifhoeaa.Steps Go.Proofs.Ytnkkgofpifhoeaa.Pk Go.Proofs.Ytnkkgofpifhoeaa.X6 Go.Proofs.YtnkkgofpifhoeaaW.PrintWords Go.Proofs.YtnkkgofpifhoeaaW.PrintLast
theorem QI {w:World} {B g:Nat} {Af Ac S:Nat → Prop} {L:Lk} {q o:Value} (h:At w B Af Ac g L q o) (hok:L.Ok) (hS:∀ k,holds Af Ac g k → S k) (hB:B ≤ w.heap.size) (AL:Int) (p:BL) (Ab:Option Addr) (cb:Nat)
  (hb0:AL ≠ 0) (hbr:0 ≤ AL ∧ AL < 4294967296) (hpr:p.JV) (hck:Aj p.kind p.mine p.AL p.yours p.seq p.AX p.stamp p.echo p.zr p.zi p.body.length = 0)  (DX:L.phase = 0) :
  Calls Try.prog 34 #[.pointer (some ⟨g,0,none⟩),.int .u32 AL,.agg #[.int .i64 p.kind,.int .u32 p.mine,.int .u32 p.AL,.int .u32 p.yours,.int .u32 p.seq,.int .u32 p.AX,.int .u32 p.stamp,.int .u32 p.echo,.complex .f64 p.zr p.zi,.slice Ab p.body.length cb]] w fun e w' => EW w B S g (L) false false false [] e w':=by
 have Fh:=Lib.hid (show (((w.alloc (.cells #[.int .i64 p.kind,.int .u32 p.mine,.int .u32 p.AL,.int .u32 p.yours,.int .u32 p.seq,.int .u32 p.AX,.int .u32 p.stamp,.int .u32 p.echo,.complex .f64 p.zr p.zi,.slice Ab p.body.length cb] 27)).alloc (.cells #[.bool false,.bool false,.bool false,.slice none 0 0] 56))).heap[w.heap.size]? = some (.cells #[.int .i64 p.kind,.int .u32 p.mine,.int .u32 p.AL,.int .u32 p.yours,.int .u32 p.seq,.int .u32 p.AX,.int .u32 p.stamp,.int .u32 p.echo,.complex .f64 p.zr p.zi,.slice Ab p.body.length cb] 27 (0,0)) from (Below.heap_alloc _ _ _ (by simp)).trans (heap_alloc_new w _))
 have H:=Lib.hid h
 have OK:=Lib.hid hok
 have HS:=Lib.hid hS
 have EF:=Lib.hid hpr
 have Es:=Lib.hid hck
 have hbz:(AL == 0) = false:=by simp [hb0]
 have EO:=Lib.hid DX
 clear DX
 clear h hok hS hpr hck hb0
 go_enter Try.func34,Try.ntmps34
 go_wp2_with fail
 refine Ap 3 (fun C HC => ?_)
 go_wp2_with (first | ((with_reducible refine AV (N:=17) rfl ?_); (refine wpList_load_row rfl 27 (.tmp 5) rfl w.heap.size (by rfl) 27 #[.int .i64 p.kind,.int .u32 p.mine,.int .u32 p.AL,.int .u32 p.yours,.int .u32 p.seq,.int .u32 p.AX,.int .u32 p.stamp,.int .u32 p.echo,.complex .f64 p.zr p.zi,.slice Ab p.body.length cb] (0,0) _ Fh.out Try.underlying27 rfl (by kernel_rfl) ?_)) | (go_at_call 20; (refine (check_any _ _ _ _ _ _ _ _ _ _ _ _ _ _ EF.out.zr EF.out.zi).mono ?_); (rintro e BH ⟨rfl,hb⟩); (rw [Es.out]); (have K0:=Lib.hid (TS.start (pc:=#[.int .i64 p.kind,.int .u32 p.mine,.int .u32 p.AL,.int .u32 p.yours,.int .u32 p.seq,.int .u32 p.AX,.int .u32 p.stamp,.int .u32 p.echo,.complex .f64 p.zr p.zi,.slice Ab p.body.length cb]) H.out HS.out hB (hb.mono (by simp)))); (clear hb); (have hl1:BH.cell? ⟨g,1,none⟩ = some (.int .i64 0):=(AA K0.out.at_.blk 1).trans (congrArg (fun x => some (Value.int .i64 x)) EO.out)); (have hp0:BH.cell? ⟨w.heap.size,0,none⟩ = some (.int .i64 p.kind):=(AA K0.out.pb 0).trans rfl); (have hp1:BH.cell? ⟨w.heap.size,1,none⟩ = some (.int .u32 p.mine):=(AA K0.out.pb 1).trans rfl)) | (go_at_call 76; (refine (Ci K0.out.at_ AL p.mine).mono ?_); (rintro e w1 ⟨rfl,rfl⟩); (skip)))
 exact Z5
theorem SA {w:World} {B g:Nat} {Af Ac S:Nat → Prop} {L:Lk} {q o:Value} (h:At w B Af Ac g L q o) (hok:L.Ok) (hS:∀ k,holds Af Ac g k → S k) (hB:B ≤ w.heap.size) (AL:Int) (p:BL) (Ab:Option Addr) (cb:Nat)
  (hb0:AL ≠ 0) (hbr:0 ≤ AL ∧ AL < 4294967296) (hpr:p.JV) (hck:Aj p.kind p.mine p.AL p.yours p.seq p.AX p.stamp p.echo p.zr p.zi p.body.length = 0)  (DX:L.phase ≠ 0) (hag:CX L AL p.mine = -1) :
  Calls Try.prog 34 #[.pointer (some ⟨g,0,none⟩),.int .u32 AL,.agg #[.int .i64 p.kind,.int .u32 p.mine,.int .u32 p.AL,.int .u32 p.yours,.int .u32 p.seq,.int .u32 p.AX,.int .u32 p.stamp,.int .u32 p.echo,.complex .f64 p.zr p.zi,.slice Ab p.body.length cb]] w fun e w' => EW w B S g (L) false false false [] e w':=by
 have Fh:=Lib.hid (show (((w.alloc (.cells #[.int .i64 p.kind,.int .u32 p.mine,.int .u32 p.AL,.int .u32 p.yours,.int .u32 p.seq,.int .u32 p.AX,.int .u32 p.stamp,.int .u32 p.echo,.complex .f64 p.zr p.zi,.slice Ab p.body.length cb] 27)).alloc (.cells #[.bool false,.bool false,.bool false,.slice none 0 0] 56))).heap[w.heap.size]? = some (.cells #[.int .i64 p.kind,.int .u32 p.mine,.int .u32 p.AL,.int .u32 p.yours,.int .u32 p.seq,.int .u32 p.AX,.int .u32 p.stamp,.int .u32 p.echo,.complex .f64 p.zr p.zi,.slice Ab p.body.length cb] 27 (0,0)) from (Below.heap_alloc _ _ _ (by simp)).trans (heap_alloc_new w _))
 have H:=Lib.hid h
 have OK:=Lib.hid hok
 have HS:=Lib.hid hS
 have EF:=Lib.hid hpr
 have Es:=Lib.hid hck
 have hbz:(AL == 0) = false:=by simp [hb0]
 have G7:=Lib.hid hag
 clear hag
 have hd1:(L.phase == 0) = false:=by simp [DX]
 clear DX
 clear h hok hS hpr hck hb0
 go_enter Try.func34,Try.ntmps34
 go_wp2_with fail
 refine Ap 3 (fun C HC => ?_)
 go_wp2_with (first | ((with_reducible refine AV (N:=17) rfl ?_); (refine wpList_load_row rfl 27 (.tmp 5) rfl w.heap.size (by rfl) 27 #[.int .i64 p.kind,.int .u32 p.mine,.int .u32 p.AL,.int .u32 p.yours,.int .u32 p.seq,.int .u32 p.AX,.int .u32 p.stamp,.int .u32 p.echo,.complex .f64 p.zr p.zi,.slice Ab p.body.length cb] (0,0) _ Fh.out Try.underlying27 rfl (by kernel_rfl) ?_)) | (go_at_call 20; (refine (check_any _ _ _ _ _ _ _ _ _ _ _ _ _ _ EF.out.zr EF.out.zi).mono ?_); (rintro e BH ⟨rfl,hb⟩); (rw [Es.out]); (have K0:=Lib.hid (TS.start (pc:=#[.int .i64 p.kind,.int .u32 p.mine,.int .u32 p.AL,.int .u32 p.yours,.int .u32 p.seq,.int .u32 p.AX,.int .u32 p.stamp,.int .u32 p.echo,.complex .f64 p.zr p.zi,.slice Ab p.body.length cb]) H.out HS.out hB (hb.mono (by simp)))); (clear hb); (have hl1:BH.cell? ⟨g,1,none⟩ = some (.int .i64 L.phase):=(AA K0.out.at_.blk 1).trans rfl); (have hp0:BH.cell? ⟨w.heap.size,0,none⟩ = some (.int .i64 p.kind):=(AA K0.out.pb 0).trans rfl); (have hp1:BH.cell? ⟨w.heap.size,1,none⟩ = some (.int .u32 p.mine):=(AA K0.out.pb 1).trans rfl)) | (go_at_call 76; (refine (Ci K0.out.at_ AL p.mine).mono ?_); (rintro e w1 ⟨rfl,rfl⟩); (rw [G7.out])))
 exact Z5
theorem Ny {w:World} {B g:Nat} {Af Ac S:Nat → Prop} {L:Lk} {q o:Value} (h:At w B Af Ac g L q o) (hok:L.Ok) (hS:∀ k,holds Af Ac g k → S k) (hB:B ≤ w.heap.size) (AL:Int) (p:BL) (Ab:Option Addr) (cb:Nat)
  (hb0:AL ≠ 0) (hbr:0 ≤ AL ∧ AL < 4294967296) (hpr:p.JV) (hck:Aj p.kind p.mine p.AL p.yours p.seq p.AX p.stamp p.echo p.zr p.zi p.body.length = 0)  (DX:L.phase = 1) (hag:0 ≤ CX L AL p.mine) (hkd:p.kind = 1) (hmn:BQ L p = true) :
  Calls Try.prog 34 #[.pointer (some ⟨g,0,none⟩),.int .u32 AL,.agg #[.int .i64 p.kind,.int .u32 p.mine,.int .u32 p.AL,.int .u32 p.yours,.int .u32 p.seq,.int .u32 p.AX,.int .u32 p.stamp,.int .u32 p.echo,.complex .f64 p.zr p.zi,.slice Ab p.body.length cb]] w fun e w' => EW w B S g (emit_ ({ L with phase:=2,AL:=AL,yours:=p.mine,known:=true }) (Cf ({ L with phase:=2,AL:=AL,yours:=p.mine,known:=true }))) true true false [] e w':=by
 have Fh:=Lib.hid (show (((w.alloc (.cells #[.int .i64 p.kind,.int .u32 p.mine,.int .u32 p.AL,.int .u32 p.yours,.int .u32 p.seq,.int .u32 p.AX,.int .u32 p.stamp,.int .u32 p.echo,.complex .f64 p.zr p.zi,.slice Ab p.body.length cb] 27)).alloc (.cells #[.bool false,.bool false,.bool false,.slice none 0 0] 56))).heap[w.heap.size]? = some (.cells #[.int .i64 p.kind,.int .u32 p.mine,.int .u32 p.AL,.int .u32 p.yours,.int .u32 p.seq,.int .u32 p.AX,.int .u32 p.stamp,.int .u32 p.echo,.complex .f64 p.zr p.zi,.slice Ab p.body.length cb] 27 (0,0)) from (Below.heap_alloc _ _ _ (by simp)).trans (heap_alloc_new w _))
 have H:=Lib.hid h
 have OK:=Lib.hid hok
 have HS:=Lib.hid hS
 have EF:=Lib.hid hpr
 have Es:=Lib.hid hck
 have hbz:(AL == 0) = false:=by simp [hb0]
 have EO:=Lib.hid DX
 clear DX
 have Eg:=Lib.hid hkd
 clear hkd
 have hd2:decide (CX L AL p.mine < 0) = false:=by simp; omega
 clear hag
 have IJ:=Lib.hid hmn
 clear hmn
 have X7:=Lib.hid (JD OK.out hbr EF.out.mine true)
 have qI:=Lib.hid hbr
 clear hbr
 clear h hok hS hpr hck hb0
 go_enter Try.func34,Try.ntmps34
 go_wp2_with fail
 refine Ap 3 (fun C HC => ?_)
 go_wp2_with (first | ((with_reducible refine AV (N:=17) rfl ?_); (refine wpList_load_row rfl 27 (.tmp 5) rfl w.heap.size (by rfl) 27 #[.int .i64 p.kind,.int .u32 p.mine,.int .u32 p.AL,.int .u32 p.yours,.int .u32 p.seq,.int .u32 p.AX,.int .u32 p.stamp,.int .u32 p.echo,.complex .f64 p.zr p.zi,.slice Ab p.body.length cb] (0,0) _ Fh.out Try.underlying27 rfl (by kernel_rfl) ?_)) | (go_at_call 20; (refine (check_any _ _ _ _ _ _ _ _ _ _ _ _ _ _ EF.out.zr EF.out.zi).mono ?_); (rintro e BH ⟨rfl,hb⟩); (rw [Es.out]); (have K0:=Lib.hid (TS.start (pc:=#[.int .i64 p.kind,.int .u32 p.mine,.int .u32 p.AL,.int .u32 p.yours,.int .u32 p.seq,.int .u32 p.AX,.int .u32 p.stamp,.int .u32 p.echo,.complex .f64 p.zr p.zi,.slice Ab p.body.length cb]) H.out HS.out hB (hb.mono (by simp)))); (clear hb); (have hl1:BH.cell? ⟨g,1,none⟩ = some (.int .i64 1):=(AA K0.out.at_.blk 1).trans (congrArg (fun x => some (Value.int .i64 x)) EO.out)); (have hp0:BH.cell? ⟨w.heap.size,0,none⟩ = some (.int .i64 1):=(AA K0.out.pb 0).trans (congrArg (fun x => some (Value.int .i64 x)) Eg.out)); (have hp1:BH.cell? ⟨w.heap.size,1,none⟩ = some (.int .u32 p.mine):=(AA K0.out.pb 1).trans rfl)) | (go_at_call 76; (refine (Ci K0.out.at_ AL p.mine).mono ?_); (rintro e w1 ⟨rfl,rfl⟩); (skip)) | ((with_reducible refine gate_ (.store 4 (.tmp 40) (.const (.bool true))) rfl ?_); (refine AZ (fun wz => TS w B S g #[.int .i64 p.kind,.int .u32 p.mine,.int .u32 p.AL,.int .u32 p.yours,.int .u32 p.seq,.int .u32 p.AX,.int .u32 p.stamp,.int .u32 p.echo,.complex .f64 p.zr p.zi,.slice Ab p.body.length cb] Af Ac (fun _ => False) (L) q o true false false (.slice none 0 0) [] wz) rfl rfl ⟨_,(by have hz1:World.cell? BH ⟨w.heap.size + 1,0,none⟩ = some _:=(AA K0.out.tb 0).trans rfl; have hz2:=AB K0.out.tb 0; first | (go_simp; done) | (go_simp; rfl)),TS.EK K0.out hB 0 _ rfl⟩ (fun CQ hF => ?_)); (have K1:=Lib.hid hF); (clear hF); (clear hl1 hp0 hp1); (have hl1:CQ.cell? ⟨g,1,none⟩ = some (.int .i64 1):=(AA K1.out.at_.blk 1).trans (congrArg (fun x => some (Value.int .i64 x)) EO.out)); (have hp0:CQ.cell? ⟨w.heap.size,0,none⟩ = some (.int .i64 1):=(AA K1.out.pb 0).trans (congrArg (fun x => some (Value.int .i64 x)) Eg.out))))
 refine wp_goto ?_
 refine Jump.goto HC.out rfl ?_
 go_wp2_with fail
 have hSS:CQ.drew.heap[w.heap.size]? = some (.cells #[.int .i64 p.kind,.int .u32 p.mine,.int .u32 p.AL,.int .u32 p.yours,.int .u32 p.seq,.int .u32 p.AX,.int .u32 p.stamp,.int .u32 p.echo,.complex .f64 p.zr p.zi,.slice Ab p.body.length cb] 27 (0,0)):=K1.out.pb
 have hts:=K1.out.drew hB
 clear hl1 hp0
 refine BC (n:=15) (S:=fun w' => w'.heap[w.heap.size]? = some (.cells #[.int .i64 p.kind,.int .u32 p.mine,.int .u32 p.AL,.int .u32 p.yours,.int .u32 p.seq,.int .u32 p.AX,.int .u32 p.stamp,.int .u32 p.echo,.complex .f64 p.zr p.zi,.slice Ab p.body.length cb] 27 (0,0))) (ds:=[]) ay (by kernel_rfl) rfl rfl (hSS) (fun hHeld => ?_)
 generalize CQ.drew = WB at hts hHeld ⊢
 have WC:=Lib.hid hts
 clear hts hSS
 refine pu 0 63 az ?_
 refine pu 1 64 bC ?_
 refine pu 2 65 bD ?_
 refine pu 3 66 bF ?_
 refine pu 4 67 bG ?_
 refine tk 5 68 bH hHeld ?_ (hf:=by intro w' s0; have hp1:w'.cell? ⟨w.heap.size,1,none⟩ = some (.int .u32 p.mine):=(AA s0 1).trans rfl; clear s0; go_simp; with_reducible rfl)
 refine pu 6 69 bI ?_
 refine pu 7 70 bJ ?_
 refine on 8 none bK fun K hK => ?_
 have hz1:WB.cell? ⟨g,3,none⟩ = some _:=(AA WC.out.at_.blk 3).trans rfl
 have hz2:=AB WC.out.at_.blk 3
 refine BN (fun wz => TS w B S g #[.int .i64 p.kind,.int .u32 p.mine,.int .u32 p.AL,.int .u32 p.yours,.int .u32 p.seq,.int .u32 p.AX,.int .u32 p.stamp,.int .u32 p.echo,.complex .f64 p.zr p.zi,.slice Ab p.body.length cb] Af Ac (fun _ => False) ({ L with AL:=AL }) q o true false false (.slice none 0 0) [] wz) (by rfl) rfl ⟨_,by first | (go_simp; done) | (go_simp; rfl),TS.Dt WC.out hB 3 _ rfl rfl rfl⟩ (fun CE hF => ?_)
 have K3:=Lib.hid hF
 clear hF hz1 hz2 hHeld
 refine hK.out _ _ K3.out.pb (fun hHeld => ?_)
 clear hK K
 refine pu 9 71 bM ?_
 refine pu 10 72 bP ?_
 refine on 11 none bQ fun K hK => ?_
 have hz1:CE.cell? ⟨g,4,none⟩ = some _:=(AA K3.out.at_.blk 4).trans rfl
 have hz2:=AB K3.out.at_.blk 4
 refine BN (fun wz => TS w B S g #[.int .i64 p.kind,.int .u32 p.mine,.int .u32 p.AL,.int .u32 p.yours,.int .u32 p.seq,.int .u32 p.AX,.int .u32 p.stamp,.int .u32 p.echo,.complex .f64 p.zr p.zi,.slice Ab p.body.length cb] Af Ac (fun _ => False) ({ L with AL:=AL,yours:=p.mine }) q o true false false (.slice none 0 0) [] wz) (by rfl) rfl ⟨_,by first | (go_simp; done) | (go_simp; rfl),TS.Dt K3.out hB 4 _ rfl rfl rfl⟩ (fun DW hF => ?_)
 have K4:=Lib.hid hF
 clear hF hz1 hz2 hHeld
 refine hK.out _ _ K4.out.pb (fun hHeld => ?_)
 clear hK K
 refine pu 12 73 bT ?_
 refine pu 13 74 bU ?_
 refine on 14 none bV fun K hK => ?_
 have hz1:DW.cell? ⟨g,5,none⟩ = some _:=(AA K4.out.at_.blk 5).trans rfl
 have hz2:=AB K4.out.at_.blk 5
 refine BN (fun wz => TS w B S g #[.int .i64 p.kind,.int .u32 p.mine,.int .u32 p.AL,.int .u32 p.yours,.int .u32 p.seq,.int .u32 p.AX,.int .u32 p.stamp,.int .u32 p.echo,.complex .f64 p.zr p.zi,.slice Ab p.body.length cb] Af Ac (fun _ => False) ({ L with AL:=AL,yours:=p.mine,known:=true }) q o true false false (.slice none 0 0) [] wz) (by rfl) rfl ⟨_,by first | (go_simp; done) | (go_simp; rfl),TS.Dt K4.out hB 5 _ rfl rfl rfl⟩ (fun D5 hF => ?_)
 have K5:=Lib.hid hF
 clear hF hz1 hz2 hHeld
 refine hK.out _ _ K5.out.pb (fun hHeld => ?_)
 clear hK K
 refine BU (by kernel_rfl) ?_
 clear hHeld
 go_wp2_with (first | ((with_reducible refine AV (N:=76) rfl ?_); (refine wpList_load_row rfl 27 (.tmp 5) rfl w.heap.size (by rfl) 27 _ (0,0) _ (by first | exact K5.out.pb | exact (K5.out.drewN hB _).pb) Try.underlying27 rfl (by kernel_rfl) ?_)) | (go_at_call 77; (refine (DL K5.out.at_ p (.slice Ab p.body.length cb)).mono ?_); (rintro e G5 ⟨rfl,hb⟩); (have hme:BQ ({ L with AL:=AL,yours:=p.mine,known:=true }) p = true:=IJ.out); (rw [hme]); (clear hme); (have K6:=Lib.hid (K5.out.sub hB hb)); (clear hb)) | ((with_reducible refine gate_ (.store 3 (.tmp 80) (.const (.int .i64 2))) rfl ?_); (refine AZ (fun wz => TS w B S g #[.int .i64 p.kind,.int .u32 p.mine,.int .u32 p.AL,.int .u32 p.yours,.int .u32 p.seq,.int .u32 p.AX,.int .u32 p.stamp,.int .u32 p.echo,.complex .f64 p.zr p.zi,.slice Ab p.body.length cb] Af Ac (fun _ => False) ({ L with phase:=2,AL:=AL,yours:=p.mine,known:=true }) q o true false false (.slice none 0 0) [] wz) rfl rfl ⟨_,(by have hz1:World.cell? G5 ⟨g,1,none⟩ = some _:=(AA K6.out.at_.blk 1).trans rfl; have hz2:=AB K6.out.at_.blk 1; first | (go_simp; done) | (go_simp; rfl)),TS.Dt K6.out hB 1 _ rfl rfl rfl⟩ (fun Gq hF => ?_)); (have K7:=Lib.hid hF); (clear hF)) | ((with_reducible refine gate_ (.store 4 (.tmp 81) (.const (.bool true))) rfl ?_); (refine AZ (fun wz => TS w B S g #[.int .i64 p.kind,.int .u32 p.mine,.int .u32 p.AL,.int .u32 p.yours,.int .u32 p.seq,.int .u32 p.AX,.int .u32 p.stamp,.int .u32 p.echo,.complex .f64 p.zr p.zi,.slice Ab p.body.length cb] Af Ac (fun _ => False) ({ L with phase:=2,AL:=AL,yours:=p.mine,known:=true }) q o true true false (.slice none 0 0) [] wz) rfl rfl ⟨_,(by have hz1:World.cell? Gq ⟨w.heap.size + 1,1,none⟩ = some _:=(AA K7.out.tb 1).trans rfl; have hz2:=AB K7.out.tb 1; first | (go_simp; done) | (go_simp; rfl)),TS.EK K7.out hB 1 _ rfl⟩ (fun MC hF => ?_)); (have K8:=Lib.hid hF); (clear hF)) | (go_at_call 73; (refine (GL K8.out.at_ (MH X7.out (by decide)) (Nat.le_trans hB K8.out.kept.1)).mono ?_); (rintro e Ur ⟨rfl,hE⟩); (obtain ⟨WE,dR,hF⟩:=TS.GM K8.out hB hE); (clear hE); (have K9:=Lib.hid hF); (clear hF)))
 refine wp_goto ?_
 refine Jump.goto HC.out rfl ?_
 exact jS
theorem Nz {w:World} {B g:Nat} {Af Ac S:Nat → Prop} {L:Lk} {q o:Value} (h:At w B Af Ac g L q o) (hok:L.Ok) (hS:∀ k,holds Af Ac g k → S k) (hB:B ≤ w.heap.size) (AL:Int) (p:BL) (Ab:Option Addr) (cb:Nat)
  (hb0:AL ≠ 0) (hbr:0 ≤ AL ∧ AL < 4294967296) (hpr:p.JV) (hck:Aj p.kind p.mine p.AL p.yours p.seq p.AX p.stamp p.echo p.zr p.zi p.body.length = 0)  (DX:L.phase = 1) (hag:0 ≤ CX L AL p.mine) (hkd:p.kind = 1) (hmn:BQ L p = false) :
  Calls Try.prog 34 #[.pointer (some ⟨g,0,none⟩),.int .u32 AL,.agg #[.int .i64 p.kind,.int .u32 p.mine,.int .u32 p.AL,.int .u32 p.yours,.int .u32 p.seq,.int .u32 p.AX,.int .u32 p.stamp,.int .u32 p.echo,.complex .f64 p.zr p.zi,.slice Ab p.body.length cb]] w fun e w' => EW w B S g (emit_ ({ L with AL:=AL,yours:=p.mine,known:=true }) (Cf ({ L with AL:=AL,yours:=p.mine,known:=true }))) true false false [] e w':=by
 have Fh:=Lib.hid (show (((w.alloc (.cells #[.int .i64 p.kind,.int .u32 p.mine,.int .u32 p.AL,.int .u32 p.yours,.int .u32 p.seq,.int .u32 p.AX,.int .u32 p.stamp,.int .u32 p.echo,.complex .f64 p.zr p.zi,.slice Ab p.body.length cb] 27)).alloc (.cells #[.bool false,.bool false,.bool false,.slice none 0 0] 56))).heap[w.heap.size]? = some (.cells #[.int .i64 p.kind,.int .u32 p.mine,.int .u32 p.AL,.int .u32 p.yours,.int .u32 p.seq,.int .u32 p.AX,.int .u32 p.stamp,.int .u32 p.echo,.complex .f64 p.zr p.zi,.slice Ab p.body.length cb] 27 (0,0)) from (Below.heap_alloc _ _ _ (by simp)).trans (heap_alloc_new w _))
 have H:=Lib.hid h
 have OK:=Lib.hid hok
 have HS:=Lib.hid hS
 have EF:=Lib.hid hpr
 have Es:=Lib.hid hck
 have hbz:(AL == 0) = false:=by simp [hb0]
 have EO:=Lib.hid DX
 clear DX
 have Eg:=Lib.hid hkd
 clear hkd
 have hd2:decide (CX L AL p.mine < 0) = false:=by simp; omega
 clear hag
 have IJ:=Lib.hid hmn
 clear hmn
 have X7:=Lib.hid (JD OK.out hbr EF.out.mine true)
 have qI:=Lib.hid hbr
 clear hbr
 clear h hok hS hpr hck hb0
 go_enter Try.func34,Try.ntmps34
 go_wp2_with fail
 refine Ap 3 (fun C HC => ?_)
 go_wp2_with (first | ((with_reducible refine AV (N:=17) rfl ?_); (refine wpList_load_row rfl 27 (.tmp 5) rfl w.heap.size (by rfl) 27 #[.int .i64 p.kind,.int .u32 p.mine,.int .u32 p.AL,.int .u32 p.yours,.int .u32 p.seq,.int .u32 p.AX,.int .u32 p.stamp,.int .u32 p.echo,.complex .f64 p.zr p.zi,.slice Ab p.body.length cb] (0,0) _ Fh.out Try.underlying27 rfl (by kernel_rfl) ?_)) | (go_at_call 20; (refine (check_any _ _ _ _ _ _ _ _ _ _ _ _ _ _ EF.out.zr EF.out.zi).mono ?_); (rintro e BH ⟨rfl,hb⟩); (rw [Es.out]); (have K0:=Lib.hid (TS.start (pc:=#[.int .i64 p.kind,.int .u32 p.mine,.int .u32 p.AL,.int .u32 p.yours,.int .u32 p.seq,.int .u32 p.AX,.int .u32 p.stamp,.int .u32 p.echo,.complex .f64 p.zr p.zi,.slice Ab p.body.length cb]) H.out HS.out hB (hb.mono (by simp)))); (clear hb); (have hl1:BH.cell? ⟨g,1,none⟩ = some (.int .i64 1):=(AA K0.out.at_.blk 1).trans (congrArg (fun x => some (Value.int .i64 x)) EO.out)); (have hp0:BH.cell? ⟨w.heap.size,0,none⟩ = some (.int .i64 1):=(AA K0.out.pb 0).trans (congrArg (fun x => some (Value.int .i64 x)) Eg.out)); (have hp1:BH.cell? ⟨w.heap.size,1,none⟩ = some (.int .u32 p.mine):=(AA K0.out.pb 1).trans rfl)) | (go_at_call 76; (refine (Ci K0.out.at_ AL p.mine).mono ?_); (rintro e w1 ⟨rfl,rfl⟩); (skip)) | ((with_reducible refine gate_ (.store 4 (.tmp 40) (.const (.bool true))) rfl ?_); (refine AZ (fun wz => TS w B S g #[.int .i64 p.kind,.int .u32 p.mine,.int .u32 p.AL,.int .u32 p.yours,.int .u32 p.seq,.int .u32 p.AX,.int .u32 p.stamp,.int .u32 p.echo,.complex .f64 p.zr p.zi,.slice Ab p.body.length cb] Af Ac (fun _ => False) (L) q o true false false (.slice none 0 0) [] wz) rfl rfl ⟨_,(by have hz1:World.cell? BH ⟨w.heap.size + 1,0,none⟩ = some _:=(AA K0.out.tb 0).trans rfl; have hz2:=AB K0.out.tb 0; first | (go_simp; done) | (go_simp; rfl)),TS.EK K0.out hB 0 _ rfl⟩ (fun CQ hF => ?_)); (have K1:=Lib.hid hF); (clear hF); (clear hl1 hp0 hp1); (have hl1:CQ.cell? ⟨g,1,none⟩ = some (.int .i64 1):=(AA K1.out.at_.blk 1).trans (congrArg (fun x => some (Value.int .i64 x)) EO.out)); (have hp0:CQ.cell? ⟨w.heap.size,0,none⟩ = some (.int .i64 1):=(AA K1.out.pb 0).trans (congrArg (fun x => some (Value.int .i64 x)) Eg.out))))
 refine wp_goto ?_
 refine Jump.goto HC.out rfl ?_
 go_wp2_with fail
 have hSS:CQ.drew.heap[w.heap.size]? = some (.cells #[.int .i64 p.kind,.int .u32 p.mine,.int .u32 p.AL,.int .u32 p.yours,.int .u32 p.seq,.int .u32 p.AX,.int .u32 p.stamp,.int .u32 p.echo,.complex .f64 p.zr p.zi,.slice Ab p.body.length cb] 27 (0,0)):=K1.out.pb
 have hts:=K1.out.drew hB
 clear hl1 hp0
 refine BC (n:=15) (S:=fun w' => w'.heap[w.heap.size]? = some (.cells #[.int .i64 p.kind,.int .u32 p.mine,.int .u32 p.AL,.int .u32 p.yours,.int .u32 p.seq,.int .u32 p.AX,.int .u32 p.stamp,.int .u32 p.echo,.complex .f64 p.zr p.zi,.slice Ab p.body.length cb] 27 (0,0))) (ds:=[]) ay (by kernel_rfl) rfl rfl (hSS) (fun hHeld => ?_)
 generalize CQ.drew = WB at hts hHeld ⊢
 have WC:=Lib.hid hts
 clear hts hSS
 refine pu 0 63 az ?_
 refine pu 1 64 bC ?_
 refine pu 2 65 bD ?_
 refine pu 3 66 bF ?_
 refine pu 4 67 bG ?_
 refine tk 5 68 bH hHeld ?_ (hf:=by intro w' s0; have hp1:w'.cell? ⟨w.heap.size,1,none⟩ = some (.int .u32 p.mine):=(AA s0 1).trans rfl; clear s0; go_simp; with_reducible rfl)
 refine pu 6 69 bI ?_
 refine pu 7 70 bJ ?_
 refine on 8 none bK fun K hK => ?_
 have hz1:WB.cell? ⟨g,3,none⟩ = some _:=(AA WC.out.at_.blk 3).trans rfl
 have hz2:=AB WC.out.at_.blk 3
 refine BN (fun wz => TS w B S g #[.int .i64 p.kind,.int .u32 p.mine,.int .u32 p.AL,.int .u32 p.yours,.int .u32 p.seq,.int .u32 p.AX,.int .u32 p.stamp,.int .u32 p.echo,.complex .f64 p.zr p.zi,.slice Ab p.body.length cb] Af Ac (fun _ => False) ({ L with AL:=AL }) q o true false false (.slice none 0 0) [] wz) (by rfl) rfl ⟨_,by first | (go_simp; done) | (go_simp; rfl),TS.Dt WC.out hB 3 _ rfl rfl rfl⟩ (fun CE hF => ?_)
 have K3:=Lib.hid hF
 clear hF hz1 hz2 hHeld
 refine hK.out _ _ K3.out.pb (fun hHeld => ?_)
 clear hK K
 refine pu 9 71 bM ?_
 refine pu 10 72 bP ?_
 refine on 11 none bQ fun K hK => ?_
 have hz1:CE.cell? ⟨g,4,none⟩ = some _:=(AA K3.out.at_.blk 4).trans rfl
 have hz2:=AB K3.out.at_.blk 4
 refine BN (fun wz => TS w B S g #[.int .i64 p.kind,.int .u32 p.mine,.int .u32 p.AL,.int .u32 p.yours,.int .u32 p.seq,.int .u32 p.AX,.int .u32 p.stamp,.int .u32 p.echo,.complex .f64 p.zr p.zi,.slice Ab p.body.length cb] Af Ac (fun _ => False) ({ L with AL:=AL,yours:=p.mine }) q o true false false (.slice none 0 0) [] wz) (by rfl) rfl ⟨_,by first | (go_simp; done) | (go_simp; rfl),TS.Dt K3.out hB 4 _ rfl rfl rfl⟩ (fun DW hF => ?_)
 have K4:=Lib.hid hF
 clear hF hz1 hz2 hHeld
 refine hK.out _ _ K4.out.pb (fun hHeld => ?_)
 clear hK K
 refine pu 12 73 bT ?_
 refine pu 13 74 bU ?_
 refine on 14 none bV fun K hK => ?_
 have hz1:DW.cell? ⟨g,5,none⟩ = some _:=(AA K4.out.at_.blk 5).trans rfl
 have hz2:=AB K4.out.at_.blk 5
 refine BN (fun wz => TS w B S g #[.int .i64 p.kind,.int .u32 p.mine,.int .u32 p.AL,.int .u32 p.yours,.int .u32 p.seq,.int .u32 p.AX,.int .u32 p.stamp,.int .u32 p.echo,.complex .f64 p.zr p.zi,.slice Ab p.body.length cb] Af Ac (fun _ => False) ({ L with AL:=AL,yours:=p.mine,known:=true }) q o true false false (.slice none 0 0) [] wz) (by rfl) rfl ⟨_,by first | (go_simp; done) | (go_simp; rfl),TS.Dt K4.out hB 5 _ rfl rfl rfl⟩ (fun D5 hF => ?_)
 have K5:=Lib.hid hF
 clear hF hz1 hz2 hHeld
 refine hK.out _ _ K5.out.pb (fun hHeld => ?_)
 clear hK K
 refine BU (by kernel_rfl) ?_
 clear hHeld
 go_wp2_with (first | ((with_reducible refine AV (N:=76) rfl ?_); (refine wpList_load_row rfl 27 (.tmp 5) rfl w.heap.size (by rfl) 27 _ (0,0) _ (by first | exact K5.out.pb | exact (K5.out.drewN hB _).pb) Try.underlying27 rfl (by kernel_rfl) ?_)) | (go_at_call 77; (refine (DL K5.out.at_ p (.slice Ab p.body.length cb)).mono ?_); (rintro e G5 ⟨rfl,hb⟩); (have hme:BQ ({ L with AL:=AL,yours:=p.mine,known:=true }) p = false:=IJ.out); (rw [hme]); (clear hme); (have K6:=Lib.hid (K5.out.sub hB hb)); (clear hb)) | (go_at_call 73; (refine (GL K6.out.at_ (X7.out) (Nat.le_trans hB K6.out.kept.1)).mono ?_); (rintro e Gq ⟨rfl,hE⟩); (obtain ⟨N7,SB,hF⟩:=TS.GM K6.out hB hE); (clear hE); (have K7:=Lib.hid hF); (clear hF)))
 refine wp_goto ?_
 refine Jump.goto HC.out rfl ?_
 exact jT
theorem MI {w:World} {B g:Nat} {Af Ac S:Nat → Prop} {L:Lk} {q o:Value} (h:At w B Af Ac g L q o) (hok:L.Ok) (hS:∀ k,holds Af Ac g k → S k) (hB:B ≤ w.heap.size) (AL:Int) (p:BL) (Ab:Option Addr) (cb:Nat)
  (hb0:AL ≠ 0) (hbr:0 ≤ AL ∧ AL < 4294967296) (hpr:p.JV) (hck:Aj p.kind p.mine p.AL p.yours p.seq p.AX p.stamp p.echo p.zr p.zi p.body.length = 0)  (DX:L.phase = 2) (hag:CX L AL p.mine = 0) (hkd:p.kind = 1) (Iw:p.seq = 0) :
  Calls Try.prog 34 #[.pointer (some ⟨g,0,none⟩),.int .u32 AL,.agg #[.int .i64 p.kind,.int .u32 p.mine,.int .u32 p.AL,.int .u32 p.yours,.int .u32 p.seq,.int .u32 p.AX,.int .u32 p.stamp,.int .u32 p.echo,.complex .f64 p.zr p.zi,.slice Ab p.body.length cb]] w fun e w' => EW w B S g (emit_ L (Cf L)) true false false [] e w':=by
 have Fh:=Lib.hid (show (((w.alloc (.cells #[.int .i64 p.kind,.int .u32 p.mine,.int .u32 p.AL,.int .u32 p.yours,.int .u32 p.seq,.int .u32 p.AX,.int .u32 p.stamp,.int .u32 p.echo,.complex .f64 p.zr p.zi,.slice Ab p.body.length cb] 27)).alloc (.cells #[.bool false,.bool false,.bool false,.slice none 0 0] 56))).heap[w.heap.size]? = some (.cells #[.int .i64 p.kind,.int .u32 p.mine,.int .u32 p.AL,.int .u32 p.yours,.int .u32 p.seq,.int .u32 p.AX,.int .u32 p.stamp,.int .u32 p.echo,.complex .f64 p.zr p.zi,.slice Ab p.body.length cb] 27 (0,0)) from (Below.heap_alloc _ _ _ (by simp)).trans (heap_alloc_new w _))
 have H:=Lib.hid h
 have OK:=Lib.hid hok
 have HS:=Lib.hid hS
 have EF:=Lib.hid hpr
 have Es:=Lib.hid hck
 have hbz:(AL == 0) = false:=by simp [hb0]
 have EO:=Lib.hid DX
 clear DX
 have G7:=Lib.hid hag
 clear hag
 have Eg:=Lib.hid hkd
 clear hkd
 have hd3:(p.seq == 0) = true:=by simp [Iw]
 clear Iw hbr
 clear h hok hS hpr hck hb0
 go_enter Try.func34,Try.ntmps34
 go_wp2_with fail
 refine Ap 3 (fun C HC => ?_)
 go_wp2_with (first | ((with_reducible refine AV (N:=17) rfl ?_); (refine wpList_load_row rfl 27 (.tmp 5) rfl w.heap.size (by rfl) 27 #[.int .i64 p.kind,.int .u32 p.mine,.int .u32 p.AL,.int .u32 p.yours,.int .u32 p.seq,.int .u32 p.AX,.int .u32 p.stamp,.int .u32 p.echo,.complex .f64 p.zr p.zi,.slice Ab p.body.length cb] (0,0) _ Fh.out Try.underlying27 rfl (by kernel_rfl) ?_)) | (go_at_call 20; (refine (check_any _ _ _ _ _ _ _ _ _ _ _ _ _ _ EF.out.zr EF.out.zi).mono ?_); (rintro e BH ⟨rfl,hb⟩); (rw [Es.out]); (have K0:=Lib.hid (TS.start (pc:=#[.int .i64 p.kind,.int .u32 p.mine,.int .u32 p.AL,.int .u32 p.yours,.int .u32 p.seq,.int .u32 p.AX,.int .u32 p.stamp,.int .u32 p.echo,.complex .f64 p.zr p.zi,.slice Ab p.body.length cb]) H.out HS.out hB (hb.mono (by simp)))); (clear hb); (have hl1:BH.cell? ⟨g,1,none⟩ = some (.int .i64 2):=(AA K0.out.at_.blk 1).trans (congrArg (fun x => some (Value.int .i64 x)) EO.out)); (have hp0:BH.cell? ⟨w.heap.size,0,none⟩ = some (.int .i64 1):=(AA K0.out.pb 0).trans (congrArg (fun x => some (Value.int .i64 x)) Eg.out)); (have hp1:BH.cell? ⟨w.heap.size,1,none⟩ = some (.int .u32 p.mine):=(AA K0.out.pb 1).trans rfl)) | (go_at_call 76; (refine (Ci K0.out.at_ AL p.mine).mono ?_); (rintro e w1 ⟨rfl,rfl⟩); (rw [G7.out])) | ((with_reducible refine gate_ (.store 4 (.tmp 40) (.const (.bool true))) rfl ?_); (refine AZ (fun wz => TS w B S g #[.int .i64 p.kind,.int .u32 p.mine,.int .u32 p.AL,.int .u32 p.yours,.int .u32 p.seq,.int .u32 p.AX,.int .u32 p.stamp,.int .u32 p.echo,.complex .f64 p.zr p.zi,.slice Ab p.body.length cb] Af Ac (fun _ => False) (L) q o true false false (.slice none 0 0) [] wz) rfl rfl ⟨_,(by have hz1:World.cell? BH ⟨w.heap.size + 1,0,none⟩ = some _:=(AA K0.out.tb 0).trans rfl; have hz2:=AB K0.out.tb 0; first | (go_simp; done) | (go_simp; rfl)),TS.EK K0.out hB 0 _ rfl⟩ (fun CQ hF => ?_)); (have K1:=Lib.hid hF); (clear hF); (clear hl1 hp0 hp1); (have hl1:CQ.cell? ⟨g,1,none⟩ = some (.int .i64 2):=(AA K1.out.at_.blk 1).trans (congrArg (fun x => some (Value.int .i64 x)) EO.out)); (have J9:CQ.cell? ⟨w.heap.size,4,none⟩ = some (.int .u32 p.seq):=(AA K1.out.pb 4).trans rfl)))
 refine wp_goto ?_
 refine Jump.goto HC.out rfl ?_
 go_wp2_with (first | (go_at_call 73; (refine (GL K1.out.at_ (OK.out) (Nat.le_trans hB K1.out.kept.1)).mono ?_); (rintro e BM ⟨rfl,hE⟩); (obtain ⟨dS,qJ,hF⟩:=TS.GM K1.out hB hE); (clear hE); (have K2:=Lib.hid hF); (clear hF); (clear hl1 J9)))
 refine wp_goto ?_
 refine Jump.goto HC.out rfl ?_
 exact Z9
theorem MJ {w:World} {B g:Nat} {Af Ac S:Nat → Prop} {L:Lk} {q o:Value} (h:At w B Af Ac g L q o) (hok:L.Ok) (hS:∀ k,holds Af Ac g k → S k) (hB:B ≤ w.heap.size) (AL:Int) (p:BL) (Ab:Option Addr) (cb:Nat)
  (hb0:AL ≠ 0) (hbr:0 ≤ AL ∧ AL < 4294967296) (hpr:p.JV) (hck:Aj p.kind p.mine p.AL p.yours p.seq p.AX p.stamp p.echo p.zr p.zi p.body.length = 0)  (DX:L.phase = 2) (hag:CX L AL p.mine = 0) (hkd:p.kind = 1) (Iw:¬ p.seq = 0) :
  Calls Try.prog 34 #[.pointer (some ⟨g,0,none⟩),.int .u32 AL,.agg #[.int .i64 p.kind,.int .u32 p.mine,.int .u32 p.AL,.int .u32 p.yours,.int .u32 p.seq,.int .u32 p.AX,.int .u32 p.stamp,.int .u32 p.echo,.complex .f64 p.zr p.zi,.slice Ab p.body.length cb]] w fun e w' => EW w B S g (L) true false false [] e w':=by
 have Fh:=Lib.hid (show (((w.alloc (.cells #[.int .i64 p.kind,.int .u32 p.mine,.int .u32 p.AL,.int .u32 p.yours,.int .u32 p.seq,.int .u32 p.AX,.int .u32 p.stamp,.int .u32 p.echo,.complex .f64 p.zr p.zi,.slice Ab p.body.length cb] 27)).alloc (.cells #[.bool false,.bool false,.bool false,.slice none 0 0] 56))).heap[w.heap.size]? = some (.cells #[.int .i64 p.kind,.int .u32 p.mine,.int .u32 p.AL,.int .u32 p.yours,.int .u32 p.seq,.int .u32 p.AX,.int .u32 p.stamp,.int .u32 p.echo,.complex .f64 p.zr p.zi,.slice Ab p.body.length cb] 27 (0,0)) from (Below.heap_alloc _ _ _ (by simp)).trans (heap_alloc_new w _))
 have H:=Lib.hid h
 have OK:=Lib.hid hok
 have HS:=Lib.hid hS
 have EF:=Lib.hid hpr
 have Es:=Lib.hid hck
 have hbz:(AL == 0) = false:=by simp [hb0]
 have EO:=Lib.hid DX
 clear DX
 have G7:=Lib.hid hag
 clear hag
 have Eg:=Lib.hid hkd
 clear hkd
 have hd3:(p.seq == 0) = false:=by simp [Iw]
 clear Iw hbr
 clear h hok hS hpr hck hb0
 go_enter Try.func34,Try.ntmps34
 go_wp2_with fail
 refine Ap 3 (fun C HC => ?_)
 go_wp2_with (first | ((with_reducible refine AV (N:=17) rfl ?_); (refine wpList_load_row rfl 27 (.tmp 5) rfl w.heap.size (by rfl) 27 #[.int .i64 p.kind,.int .u32 p.mine,.int .u32 p.AL,.int .u32 p.yours,.int .u32 p.seq,.int .u32 p.AX,.int .u32 p.stamp,.int .u32 p.echo,.complex .f64 p.zr p.zi,.slice Ab p.body.length cb] (0,0) _ Fh.out Try.underlying27 rfl (by kernel_rfl) ?_)) | (go_at_call 20; (refine (check_any _ _ _ _ _ _ _ _ _ _ _ _ _ _ EF.out.zr EF.out.zi).mono ?_); (rintro e BH ⟨rfl,hb⟩); (rw [Es.out]); (have K0:=Lib.hid (TS.start (pc:=#[.int .i64 p.kind,.int .u32 p.mine,.int .u32 p.AL,.int .u32 p.yours,.int .u32 p.seq,.int .u32 p.AX,.int .u32 p.stamp,.int .u32 p.echo,.complex .f64 p.zr p.zi,.slice Ab p.body.length cb]) H.out HS.out hB (hb.mono (by simp)))); (clear hb); (have hl1:BH.cell? ⟨g,1,none⟩ = some (.int .i64 2):=(AA K0.out.at_.blk 1).trans (congrArg (fun x => some (Value.int .i64 x)) EO.out)); (have hp0:BH.cell? ⟨w.heap.size,0,none⟩ = some (.int .i64 1):=(AA K0.out.pb 0).trans (congrArg (fun x => some (Value.int .i64 x)) Eg.out)); (have hp1:BH.cell? ⟨w.heap.size,1,none⟩ = some (.int .u32 p.mine):=(AA K0.out.pb 1).trans rfl)) | (go_at_call 76; (refine (Ci K0.out.at_ AL p.mine).mono ?_); (rintro e w1 ⟨rfl,rfl⟩); (rw [G7.out])) | ((with_reducible refine gate_ (.store 4 (.tmp 40) (.const (.bool true))) rfl ?_); (refine AZ (fun wz => TS w B S g #[.int .i64 p.kind,.int .u32 p.mine,.int .u32 p.AL,.int .u32 p.yours,.int .u32 p.seq,.int .u32 p.AX,.int .u32 p.stamp,.int .u32 p.echo,.complex .f64 p.zr p.zi,.slice Ab p.body.length cb] Af Ac (fun _ => False) (L) q o true false false (.slice none 0 0) [] wz) rfl rfl ⟨_,(by have hz1:World.cell? BH ⟨w.heap.size + 1,0,none⟩ = some _:=(AA K0.out.tb 0).trans rfl; have hz2:=AB K0.out.tb 0; first | (go_simp; done) | (go_simp; rfl)),TS.EK K0.out hB 0 _ rfl⟩ (fun CQ hF => ?_)); (have K1:=Lib.hid hF); (clear hF); (clear hl1 hp0 hp1); (have hl1:CQ.cell? ⟨g,1,none⟩ = some (.int .i64 2):=(AA K1.out.at_.blk 1).trans (congrArg (fun x => some (Value.int .i64 x)) EO.out)); (have J9:CQ.cell? ⟨w.heap.size,4,none⟩ = some (.int .u32 p.seq):=(AA K1.out.pb 4).trans rfl)))
 refine wp_goto ?_
 refine Jump.goto HC.out rfl ?_
 go_wp2_with fail
 exact jU
theorem N8 {w:World} {B g:Nat} {Af Ac S:Nat → Prop} {L:Lk} {q o:Value} (h:At w B Af Ac g L q o) (hok:L.Ok) (hS:∀ k,holds Af Ac g k → S k) (hB:B ≤ w.heap.size) (AL:Int) (p:BL) (Ab:Option Addr) (cb:Nat)
  (hb0:AL ≠ 0) (hbr:0 ≤ AL ∧ AL < 4294967296) (hpr:p.JV) (hck:Aj p.kind p.mine p.AL p.yours p.seq p.AX p.stamp p.echo p.zr p.zi p.body.length = 0)  (DX:L.phase = 2) (hag:CX L AL p.mine = 1) (hkd:p.kind = 1) (hmx:L.token = 4294967295) :
  Calls Try.prog 34 #[.pointer (some ⟨g,0,none⟩),.int .u32 AL,.agg #[.int .i64 p.kind,.int .u32 p.mine,.int .u32 p.AL,.int .u32 p.yours,.int .u32 p.seq,.int .u32 p.AX,.int .u32 p.stamp,.int .u32 p.echo,.complex .f64 p.zr p.zi,.slice Ab p.body.length cb]] w fun e w' => EW w B S g (ET L) true false true [] e w':=by
 have Fh:=Lib.hid (show (((w.alloc (.cells #[.int .i64 p.kind,.int .u32 p.mine,.int .u32 p.AL,.int .u32 p.yours,.int .u32 p.seq,.int .u32 p.AX,.int .u32 p.stamp,.int .u32 p.echo,.complex .f64 p.zr p.zi,.slice Ab p.body.length cb] 27)).alloc (.cells #[.bool false,.bool false,.bool false,.slice none 0 0] 56))).heap[w.heap.size]? = some (.cells #[.int .i64 p.kind,.int .u32 p.mine,.int .u32 p.AL,.int .u32 p.yours,.int .u32 p.seq,.int .u32 p.AX,.int .u32 p.stamp,.int .u32 p.echo,.complex .f64 p.zr p.zi,.slice Ab p.body.length cb] 27 (0,0)) from (Below.heap_alloc _ _ _ (by simp)).trans (heap_alloc_new w _))
 have H:=Lib.hid h
 have OK:=Lib.hid hok
 have HS:=Lib.hid hS
 have EF:=Lib.hid hpr
 have Es:=Lib.hid hck
 have hbz:(AL == 0) = false:=by simp [hb0]
 have EO:=Lib.hid DX
 clear DX
 have G7:=Lib.hid hag
 clear hag
 have Eg:=Lib.hid hkd
 clear hkd
 have hd3:(L.token == 4294967295) = true:=by simp [hmx]
 clear hmx hbr
 clear h hok hS hpr hck hb0
 go_enter Try.func34,Try.ntmps34
 go_wp2_with fail
 refine Ap 3 (fun C HC => ?_)
 go_wp2_with (first | ((with_reducible refine AV (N:=17) rfl ?_); (refine wpList_load_row rfl 27 (.tmp 5) rfl w.heap.size (by rfl) 27 #[.int .i64 p.kind,.int .u32 p.mine,.int .u32 p.AL,.int .u32 p.yours,.int .u32 p.seq,.int .u32 p.AX,.int .u32 p.stamp,.int .u32 p.echo,.complex .f64 p.zr p.zi,.slice Ab p.body.length cb] (0,0) _ Fh.out Try.underlying27 rfl (by kernel_rfl) ?_)) | (go_at_call 20; (refine (check_any _ _ _ _ _ _ _ _ _ _ _ _ _ _ EF.out.zr EF.out.zi).mono ?_); (rintro e BH ⟨rfl,hb⟩); (rw [Es.out]); (have K0:=Lib.hid (TS.start (pc:=#[.int .i64 p.kind,.int .u32 p.mine,.int .u32 p.AL,.int .u32 p.yours,.int .u32 p.seq,.int .u32 p.AX,.int .u32 p.stamp,.int .u32 p.echo,.complex .f64 p.zr p.zi,.slice Ab p.body.length cb]) H.out HS.out hB (hb.mono (by simp)))); (clear hb); (have hl1:BH.cell? ⟨g,1,none⟩ = some (.int .i64 2):=(AA K0.out.at_.blk 1).trans (congrArg (fun x => some (Value.int .i64 x)) EO.out)); (have hp0:BH.cell? ⟨w.heap.size,0,none⟩ = some (.int .i64 1):=(AA K0.out.pb 0).trans (congrArg (fun x => some (Value.int .i64 x)) Eg.out)); (have hp1:BH.cell? ⟨w.heap.size,1,none⟩ = some (.int .u32 p.mine):=(AA K0.out.pb 1).trans rfl)) | (go_at_call 76; (refine (Ci K0.out.at_ AL p.mine).mono ?_); (rintro e w1 ⟨rfl,rfl⟩); (rw [G7.out])) | ((with_reducible refine gate_ (.store 4 (.tmp 40) (.const (.bool true))) rfl ?_); (refine AZ (fun wz => TS w B S g #[.int .i64 p.kind,.int .u32 p.mine,.int .u32 p.AL,.int .u32 p.yours,.int .u32 p.seq,.int .u32 p.AX,.int .u32 p.stamp,.int .u32 p.echo,.complex .f64 p.zr p.zi,.slice Ab p.body.length cb] Af Ac (fun _ => False) (L) q o true false false (.slice none 0 0) [] wz) rfl rfl ⟨_,(by have hz1:World.cell? BH ⟨w.heap.size + 1,0,none⟩ = some _:=(AA K0.out.tb 0).trans rfl; have hz2:=AB K0.out.tb 0; first | (go_simp; done) | (go_simp; rfl)),TS.EK K0.out hB 0 _ rfl⟩ (fun CQ hF => ?_)); (have K1:=Lib.hid hF); (clear hF); (clear hl1 hp0 hp1); (have hl1:CQ.cell? ⟨g,1,none⟩ = some (.int .i64 2):=(AA K1.out.at_.blk 1).trans (congrArg (fun x => some (Value.int .i64 x)) EO.out)); (have hp0:CQ.cell? ⟨w.heap.size,0,none⟩ = some (.int .i64 1):=(AA K1.out.pb 0).trans (congrArg (fun x => some (Value.int .i64 x)) Eg.out))))
 refine wp_goto ?_
 refine Jump.goto HC.out rfl ?_
 go_wp2_with (first | ((with_reducible refine gate_ (.store 4 (.tmp 89) (.const (.bool true))) rfl ?_); (refine AZ (fun wz => TS w B S g #[.int .i64 p.kind,.int .u32 p.mine,.int .u32 p.AL,.int .u32 p.yours,.int .u32 p.seq,.int .u32 p.AX,.int .u32 p.stamp,.int .u32 p.echo,.complex .f64 p.zr p.zi,.slice Ab p.body.length cb] Af Ac (fun _ => False) (L) q o true false true (.slice none 0 0) [] wz) rfl rfl ⟨_,(by have hz1:World.cell? CQ ⟨w.heap.size + 1,2,none⟩ = some _:=(AA K1.out.tb 2).trans rfl; have hz2:=AB K1.out.tb 2; first | (go_simp; done) | (go_simp; rfl)),TS.EK K1.out hB 2 _ rfl⟩ (fun BM hF => ?_)); (have K2:=Lib.hid hF); (clear hF); (clear hl1 hp0); (have hl2:BM.cell? ⟨g,2,none⟩ = some (.int .u32 L.token):=(AA K2.out.at_.blk 2).trans rfl)) | (go_at_call 78; (refine (O7 K2.out.at_).mono ?_); (rintro e CE ⟨rfl,h1,hat⟩); (have K3:=Lib.hid (K2.out.Uo hB hat h1 (fun _ hf => hf.elim))); (clear h1 hat); (clear hl2)))
 refine wp_goto ?_
 refine Jump.goto HC.out rfl ?_
 go_wp2_with (first | ((with_reducible refine AV (N:=207) rfl ?_); (refine wpList_load_row rfl 56 (.tmp 6) rfl (w.heap.size + 1) (by rfl) 56 _ (0,0) _ (by first | exact K3.out.tb | exact (K3.out.drewN hB _).tb) Try.underlying56 rfl (by kernel_rfl) ?_)) | ((with_reducible refine gate_ (.store 56 (.tmp 6) (.tmp 207)) rfl ?_); (refine Ae rfl rfl 56 (.tmp 6) (.tmp 207) rfl (w.heap.size + 1) _ rfl rfl 56 _ (by first | exact K3.out.tb | exact (K3.out.drewN hB _).tb) (by kernel_rfl) rfl (by kernel_rfl) ?_); (intro DW ED D7); (have hF:=TS.IA (by first | exact K3.out | exact K3.out.drewN hB _ | exact K3.out.drew hB) hB D7 ED (by first | exact K3.out.Ea | exact (K3.out.drewN hB _).Ea) (by first | exact K3.out.okb | exact (K3.out.drewN hB _).okb)); (have K4:=Lib.hid hF); (clear hF ED D7)))
 refine Jump.ret ?_
 refine bodyPost_ret ?_ rfl (K4.out.ends)
 exact Ag Try.results34 _ _ rfl rfl (run_loadVar_row (P:=Try.prog) _ (w.heap.size + 1) 56 56 _ (0,0) _ K4.out.tb Try.underlying56 rfl (by kernel_rfl))
theorem N9 {w:World} {B g:Nat} {Af Ac S:Nat → Prop} {L:Lk} {q o:Value} (h:At w B Af Ac g L q o) (hok:L.Ok) (hS:∀ k,holds Af Ac g k → S k) (hB:B ≤ w.heap.size) (AL:Int) (p:BL) (Ab:Option Addr) (cb:Nat)
  (hb0:AL ≠ 0) (hbr:0 ≤ AL ∧ AL < 4294967296) (hpr:p.JV) (hck:Aj p.kind p.mine p.AL p.yours p.seq p.AX p.stamp p.echo p.zr p.zi p.body.length = 0)  (DX:L.phase = 2) (hag:CX L AL p.mine = 1) (hkd:p.kind = 1) (hmx:¬ L.token = 4294967295) :
  Calls Try.prog 34 #[.pointer (some ⟨g,0,none⟩),.int .u32 AL,.agg #[.int .i64 p.kind,.int .u32 p.mine,.int .u32 p.AL,.int .u32 p.yours,.int .u32 p.seq,.int .u32 p.AX,.int .u32 p.stamp,.int .u32 p.echo,.complex .f64 p.zr p.zi,.slice Ab p.body.length cb]] w fun e w' => EW w B S g (emit_ ({ Dj L with AL:=AL,yours:=p.mine,known:=true }) (Cf ({ Dj L with AL:=AL,yours:=p.mine,known:=true }))) true false true [] e w':=by
 have Fh:=Lib.hid (show (((w.alloc (.cells #[.int .i64 p.kind,.int .u32 p.mine,.int .u32 p.AL,.int .u32 p.yours,.int .u32 p.seq,.int .u32 p.AX,.int .u32 p.stamp,.int .u32 p.echo,.complex .f64 p.zr p.zi,.slice Ab p.body.length cb] 27)).alloc (.cells #[.bool false,.bool false,.bool false,.slice none 0 0] 56))).heap[w.heap.size]? = some (.cells #[.int .i64 p.kind,.int .u32 p.mine,.int .u32 p.AL,.int .u32 p.yours,.int .u32 p.seq,.int .u32 p.AX,.int .u32 p.stamp,.int .u32 p.echo,.complex .f64 p.zr p.zi,.slice Ab p.body.length cb] 27 (0,0)) from (Below.heap_alloc _ _ _ (by simp)).trans (heap_alloc_new w _))
 have H:=Lib.hid h
 have OK:=Lib.hid hok
 have HS:=Lib.hid hS
 have EF:=Lib.hid hpr
 have Es:=Lib.hid hck
 have hbz:(AL == 0) = false:=by simp [hb0]
 have EO:=Lib.hid DX
 clear DX
 have G7:=Lib.hid hag
 clear hag
 have Eg:=Lib.hid hkd
 clear hkd
 have hd3:(L.token == 4294967295) = false:=by simp [hmx]
 have htk:L.token < 4294967295:=by have:=OK.out.token; omega
 have VK:=Lib.hid htk
 clear htk
 have X7:=Lib.hid (JD (JS OK.out VK.out) hbr EF.out.mine true)
 clear hmx hbr
 clear h hok hS hpr hck hb0
 go_enter Try.func34,Try.ntmps34
 go_wp2_with fail
 refine Ap 3 (fun C HC => ?_)
 go_wp2_with (first | ((with_reducible refine AV (N:=17) rfl ?_); (refine wpList_load_row rfl 27 (.tmp 5) rfl w.heap.size (by rfl) 27 #[.int .i64 p.kind,.int .u32 p.mine,.int .u32 p.AL,.int .u32 p.yours,.int .u32 p.seq,.int .u32 p.AX,.int .u32 p.stamp,.int .u32 p.echo,.complex .f64 p.zr p.zi,.slice Ab p.body.length cb] (0,0) _ Fh.out Try.underlying27 rfl (by kernel_rfl) ?_)) | (go_at_call 20; (refine (check_any _ _ _ _ _ _ _ _ _ _ _ _ _ _ EF.out.zr EF.out.zi).mono ?_); (rintro e BH ⟨rfl,hb⟩); (rw [Es.out]); (have K0:=Lib.hid (TS.start (pc:=#[.int .i64 p.kind,.int .u32 p.mine,.int .u32 p.AL,.int .u32 p.yours,.int .u32 p.seq,.int .u32 p.AX,.int .u32 p.stamp,.int .u32 p.echo,.complex .f64 p.zr p.zi,.slice Ab p.body.length cb]) H.out HS.out hB (hb.mono (by simp)))); (clear hb); (have hl1:BH.cell? ⟨g,1,none⟩ = some (.int .i64 2):=(AA K0.out.at_.blk 1).trans (congrArg (fun x => some (Value.int .i64 x)) EO.out)); (have hp0:BH.cell? ⟨w.heap.size,0,none⟩ = some (.int .i64 1):=(AA K0.out.pb 0).trans (congrArg (fun x => some (Value.int .i64 x)) Eg.out)); (have hp1:BH.cell? ⟨w.heap.size,1,none⟩ = some (.int .u32 p.mine):=(AA K0.out.pb 1).trans rfl)) | (go_at_call 76; (refine (Ci K0.out.at_ AL p.mine).mono ?_); (rintro e w1 ⟨rfl,rfl⟩); (rw [G7.out])) | ((with_reducible refine gate_ (.store 4 (.tmp 40) (.const (.bool true))) rfl ?_); (refine AZ (fun wz => TS w B S g #[.int .i64 p.kind,.int .u32 p.mine,.int .u32 p.AL,.int .u32 p.yours,.int .u32 p.seq,.int .u32 p.AX,.int .u32 p.stamp,.int .u32 p.echo,.complex .f64 p.zr p.zi,.slice Ab p.body.length cb] Af Ac (fun _ => False) (L) q o true false false (.slice none 0 0) [] wz) rfl rfl ⟨_,(by have hz1:World.cell? BH ⟨w.heap.size + 1,0,none⟩ = some _:=(AA K0.out.tb 0).trans rfl; have hz2:=AB K0.out.tb 0; first | (go_simp; done) | (go_simp; rfl)),TS.EK K0.out hB 0 _ rfl⟩ (fun CQ hF => ?_)); (have K1:=Lib.hid hF); (clear hF); (clear hl1 hp0 hp1); (have hl1:CQ.cell? ⟨g,1,none⟩ = some (.int .i64 2):=(AA K1.out.at_.blk 1).trans (congrArg (fun x => some (Value.int .i64 x)) EO.out)); (have hp0:CQ.cell? ⟨w.heap.size,0,none⟩ = some (.int .i64 1):=(AA K1.out.pb 0).trans (congrArg (fun x => some (Value.int .i64 x)) Eg.out))))
 refine wp_goto ?_
 refine Jump.goto HC.out rfl ?_
 go_wp2_with (first | ((with_reducible refine gate_ (.store 4 (.tmp 89) (.const (.bool true))) rfl ?_); (refine AZ (fun wz => TS w B S g #[.int .i64 p.kind,.int .u32 p.mine,.int .u32 p.AL,.int .u32 p.yours,.int .u32 p.seq,.int .u32 p.AX,.int .u32 p.stamp,.int .u32 p.echo,.complex .f64 p.zr p.zi,.slice Ab p.body.length cb] Af Ac (fun _ => False) (L) q o true false true (.slice none 0 0) [] wz) rfl rfl ⟨_,(by have hz1:World.cell? CQ ⟨w.heap.size + 1,2,none⟩ = some _:=(AA K1.out.tb 2).trans rfl; have hz2:=AB K1.out.tb 2; first | (go_simp; done) | (go_simp; rfl)),TS.EK K1.out hB 2 _ rfl⟩ (fun BM hF => ?_)); (have K2:=Lib.hid hF); (clear hF); (clear hl1 hp0); (have hl2:BM.cell? ⟨g,2,none⟩ = some (.int .u32 L.token):=(AA K2.out.at_.blk 2).trans rfl)) | (go_at_call 72; (refine (MB K2.out.at_ OK.out VK.out).mono ?_); (rintro e CE ⟨rfl,h1,hat⟩); (have K3:=Lib.hid (K2.out.Uo hB hat h1 (fun _ hf => hf.elim))); (clear h1 hat); (clear hl2)))
 have hSS:CE.drew.heap[w.heap.size]? = some (.cells #[.int .i64 p.kind,.int .u32 p.mine,.int .u32 p.AL,.int .u32 p.yours,.int .u32 p.seq,.int .u32 p.AX,.int .u32 p.stamp,.int .u32 p.echo,.complex .f64 p.zr p.zi,.slice Ab p.body.length cb] 27 (0,0)):=K3.out.pb
 have hts:=K3.out.drew hB
 refine BC (n:=15) (S:=fun w' => w'.heap[w.heap.size]? = some (.cells #[.int .i64 p.kind,.int .u32 p.mine,.int .u32 p.AL,.int .u32 p.yours,.int .u32 p.seq,.int .u32 p.AX,.int .u32 p.stamp,.int .u32 p.echo,.complex .f64 p.zr p.zi,.slice Ab p.body.length cb] 27 (0,0))) (ds:=[]) ay (by kernel_rfl) rfl rfl (hSS) (fun hHeld => ?_)
 generalize CE.drew = dU at hts hHeld ⊢
 have dV:=Lib.hid hts
 clear hts hSS
 refine pu 0 99 az ?_
 refine pu 1 100 bC ?_
 refine pu 2 101 bD ?_
 refine pu 3 102 bF ?_
 refine pu 4 103 bG ?_
 refine tk 5 104 bH hHeld ?_ (hf:=by intro w' s0; have hp1:w'.cell? ⟨w.heap.size,1,none⟩ = some (.int .u32 p.mine):=(AA s0 1).trans rfl; clear s0; go_simp; with_reducible rfl)
 refine pu 6 105 bI ?_
 refine pu 7 106 bJ ?_
 refine on 8 none bK fun K hK => ?_
 have hz1:dU.cell? ⟨g,3,none⟩ = some _:=(AA dV.out.at_.blk 3).trans rfl
 have hz2:=AB dV.out.at_.blk 3
 refine BN (fun wz => TS w B S g #[.int .i64 p.kind,.int .u32 p.mine,.int .u32 p.AL,.int .u32 p.yours,.int .u32 p.seq,.int .u32 p.AX,.int .u32 p.stamp,.int .u32 p.echo,.complex .f64 p.zr p.zi,.slice Ab p.body.length cb] (fun _ => False) Ac (fun _ => False) ({ Dj L with AL:=AL }) (.slice none 0 0) o true false true (.slice none 0 0) [] wz) (by rfl) rfl ⟨_,by first | (go_simp; done) | (go_simp; rfl),TS.Dt dV.out hB 3 _ rfl rfl rfl⟩ (fun D5 hF => ?_)
 have K5:=Lib.hid hF
 clear hF hz1 hz2 hHeld
 refine hK.out _ _ K5.out.pb (fun hHeld => ?_)
 clear hK K
 refine pu 9 107 bM ?_
 refine pu 10 108 bP ?_
 refine on 11 none bQ fun K hK => ?_
 have hz1:D5.cell? ⟨g,4,none⟩ = some _:=(AA K5.out.at_.blk 4).trans rfl
 have hz2:=AB K5.out.at_.blk 4
 refine BN (fun wz => TS w B S g #[.int .i64 p.kind,.int .u32 p.mine,.int .u32 p.AL,.int .u32 p.yours,.int .u32 p.seq,.int .u32 p.AX,.int .u32 p.stamp,.int .u32 p.echo,.complex .f64 p.zr p.zi,.slice Ab p.body.length cb] (fun _ => False) Ac (fun _ => False) ({ Dj L with AL:=AL,yours:=p.mine }) (.slice none 0 0) o true false true (.slice none 0 0) [] wz) (by rfl) rfl ⟨_,by first | (go_simp; done) | (go_simp; rfl),TS.Dt K5.out hB 4 _ rfl rfl rfl⟩ (fun G5 hF => ?_)
 have K6:=Lib.hid hF
 clear hF hz1 hz2 hHeld
 refine hK.out _ _ K6.out.pb (fun hHeld => ?_)
 clear hK K
 refine pu 12 109 bT ?_
 refine pu 13 110 bU ?_
 refine on 14 none bV fun K hK => ?_
 have hz1:G5.cell? ⟨g,5,none⟩ = some _:=(AA K6.out.at_.blk 5).trans rfl
 have hz2:=AB K6.out.at_.blk 5
 refine BN (fun wz => TS w B S g #[.int .i64 p.kind,.int .u32 p.mine,.int .u32 p.AL,.int .u32 p.yours,.int .u32 p.seq,.int .u32 p.AX,.int .u32 p.stamp,.int .u32 p.echo,.complex .f64 p.zr p.zi,.slice Ab p.body.length cb] (fun _ => False) Ac (fun _ => False) ({ Dj L with AL:=AL,yours:=p.mine,known:=true }) (.slice none 0 0) o true false true (.slice none 0 0) [] wz) (by rfl) rfl ⟨_,by first | (go_simp; done) | (go_simp; rfl),TS.Dt K6.out hB 5 _ rfl rfl rfl⟩ (fun Gq hF => ?_)
 have K7:=Lib.hid hF
 clear hF hz1 hz2 hHeld
 refine hK.out _ _ K7.out.pb (fun hHeld => ?_)
 clear hK K
 refine BU (by kernel_rfl) ?_
 clear hHeld
 go_wp2_with (first | (go_at_call 73; (refine (GL K7.out.at_ (X7.out) (Nat.le_trans hB K7.out.kept.1)).mono ?_); (rintro e MC ⟨rfl,hE⟩); (obtain ⟨dW,qK,hF⟩:=TS.GM K7.out hB hE); (clear hE); (have K8:=Lib.hid hF); (clear hF)))
 refine wp_goto ?_
 refine Jump.goto HC.out rfl ?_
 go_wp2_with (first | ((with_reducible refine AV (N:=207) rfl ?_); (refine wpList_load_row rfl 56 (.tmp 6) rfl (w.heap.size + 1) (by rfl) 56 _ (0,0) _ (by first | exact K8.out.tb | exact (K8.out.drewN hB _).tb) Try.underlying56 rfl (by kernel_rfl) ?_)) | ((with_reducible refine gate_ (.store 56 (.tmp 6) (.tmp 207)) rfl ?_); (refine Ae rfl rfl 56 (.tmp 6) (.tmp 207) rfl (w.heap.size + 1) _ rfl rfl 56 _ (by first | exact K8.out.tb | exact (K8.out.drewN hB _).tb) (by kernel_rfl) rfl (by kernel_rfl) ?_); (intro Ur ED D7); (have hF:=TS.IA (by first | exact K8.out | exact K8.out.drewN hB _ | exact K8.out.drew hB) hB D7 ED (by first | exact K8.out.Ea | exact (K8.out.drewN hB _).Ea) (by first | exact K8.out.okb | exact (K8.out.drewN hB _).okb)); (have K9:=Lib.hid hF); (clear hF ED D7)))
 refine Jump.ret ?_
 refine bodyPost_ret ?_ rfl (K9.out.ends)
 exact Ag Try.results34 _ _ rfl rfl (run_loadVar_row (P:=Try.prog) _ (w.heap.size + 1) 56 56 _ (0,0) _ K9.out.tb Try.underlying56 rfl (by kernel_rfl))
theorem SC {w:World} {B g:Nat} {Af Ac S:Nat → Prop} {L:Lk} {q o:Value} (h:At w B Af Ac g L q o) (hok:L.Ok) (hS:∀ k,holds Af Ac g k → S k) (hB:B ≤ w.heap.size) (AL:Int) (p:BL) (Ab:Option Addr) (cb:Nat)
  (hb0:AL ≠ 0) (hbr:0 ≤ AL ∧ AL < 4294967296) (hpr:p.JV) (hck:Aj p.kind p.mine p.AL p.yours p.seq p.AX p.stamp p.echo p.zr p.zi p.body.length = 0)  (DX:L.phase = 1) (hag:0 ≤ CX L AL p.mine) (hkn:p.kind ≠ 1) :
  Calls Try.prog 34 #[.pointer (some ⟨g,0,none⟩),.int .u32 AL,.agg #[.int .i64 p.kind,.int .u32 p.mine,.int .u32 p.AL,.int .u32 p.yours,.int .u32 p.seq,.int .u32 p.AX,.int .u32 p.stamp,.int .u32 p.echo,.complex .f64 p.zr p.zi,.slice Ab p.body.length cb]] w fun e w' => EW w B S g (L) false false false [] e w':=by
 have Fh:=Lib.hid (show (((w.alloc (.cells #[.int .i64 p.kind,.int .u32 p.mine,.int .u32 p.AL,.int .u32 p.yours,.int .u32 p.seq,.int .u32 p.AX,.int .u32 p.stamp,.int .u32 p.echo,.complex .f64 p.zr p.zi,.slice Ab p.body.length cb] 27)).alloc (.cells #[.bool false,.bool false,.bool false,.slice none 0 0] 56))).heap[w.heap.size]? = some (.cells #[.int .i64 p.kind,.int .u32 p.mine,.int .u32 p.AL,.int .u32 p.yours,.int .u32 p.seq,.int .u32 p.AX,.int .u32 p.stamp,.int .u32 p.echo,.complex .f64 p.zr p.zi,.slice Ab p.body.length cb] 27 (0,0)) from (Below.heap_alloc _ _ _ (by simp)).trans (heap_alloc_new w _))
 have H:=Lib.hid h
 have OK:=Lib.hid hok
 have HS:=Lib.hid hS
 have EF:=Lib.hid hpr
 have Es:=Lib.hid hck
 have hbz:(AL == 0) = false:=by simp [hb0]
 have EO:=Lib.hid DX
 clear DX
 have hd2:decide (CX L AL p.mine < 0) = false:=by simp; omega
 clear hag hbr
 have hd4:(p.kind == 1) = false:=by simp [hkn]
 clear hkn
 clear h hok hS hpr hck hb0
 go_enter Try.func34,Try.ntmps34
 go_wp2_with fail
 refine Ap 3 (fun C HC => ?_)
 go_wp2_with (first | ((with_reducible refine AV (N:=17) rfl ?_); (refine wpList_load_row rfl 27 (.tmp 5) rfl w.heap.size (by rfl) 27 #[.int .i64 p.kind,.int .u32 p.mine,.int .u32 p.AL,.int .u32 p.yours,.int .u32 p.seq,.int .u32 p.AX,.int .u32 p.stamp,.int .u32 p.echo,.complex .f64 p.zr p.zi,.slice Ab p.body.length cb] (0,0) _ Fh.out Try.underlying27 rfl (by kernel_rfl) ?_)) | (go_at_call 20; (refine (check_any _ _ _ _ _ _ _ _ _ _ _ _ _ _ EF.out.zr EF.out.zi).mono ?_); (rintro e BH ⟨rfl,hb⟩); (rw [Es.out]); (have K0:=Lib.hid (TS.start (pc:=#[.int .i64 p.kind,.int .u32 p.mine,.int .u32 p.AL,.int .u32 p.yours,.int .u32 p.seq,.int .u32 p.AX,.int .u32 p.stamp,.int .u32 p.echo,.complex .f64 p.zr p.zi,.slice Ab p.body.length cb]) H.out HS.out hB (hb.mono (by simp)))); (clear hb); (have hl1:BH.cell? ⟨g,1,none⟩ = some (.int .i64 1):=(AA K0.out.at_.blk 1).trans (congrArg (fun x => some (Value.int .i64 x)) EO.out)); (have hp0:BH.cell? ⟨w.heap.size,0,none⟩ = some (.int .i64 p.kind):=(AA K0.out.pb 0).trans rfl); (have hp1:BH.cell? ⟨w.heap.size,1,none⟩ = some (.int .u32 p.mine):=(AA K0.out.pb 1).trans rfl)) | (go_at_call 76; (refine (Ci K0.out.at_ AL p.mine).mono ?_); (rintro e w1 ⟨rfl,rfl⟩); (skip)))
 exact Z5
theorem SE {w:World} {B g:Nat} {Af Ac S:Nat → Prop} {L:Lk} {q o:Value} (h:At w B Af Ac g L q o) (hok:L.Ok) (hS:∀ k,holds Af Ac g k → S k) (hB:B ≤ w.heap.size) (AL:Int) (p:BL) (Ab:Option Addr) (cb:Nat)
  (hb0:AL ≠ 0) (hbr:0 ≤ AL ∧ AL < 4294967296) (hpr:p.JV) (hck:Aj p.kind p.mine p.AL p.yours p.seq p.AX p.stamp p.echo p.zr p.zi p.body.length = 0)  (DX:L.phase = 2) (hag:CX L AL p.mine = 1) (hkn:p.kind ≠ 1) :
  Calls Try.prog 34 #[.pointer (some ⟨g,0,none⟩),.int .u32 AL,.agg #[.int .i64 p.kind,.int .u32 p.mine,.int .u32 p.AL,.int .u32 p.yours,.int .u32 p.seq,.int .u32 p.AX,.int .u32 p.stamp,.int .u32 p.echo,.complex .f64 p.zr p.zi,.slice Ab p.body.length cb]] w fun e w' => EW w B S g (L) false false false [] e w':=by
 have Fh:=Lib.hid (show (((w.alloc (.cells #[.int .i64 p.kind,.int .u32 p.mine,.int .u32 p.AL,.int .u32 p.yours,.int .u32 p.seq,.int .u32 p.AX,.int .u32 p.stamp,.int .u32 p.echo,.complex .f64 p.zr p.zi,.slice Ab p.body.length cb] 27)).alloc (.cells #[.bool false,.bool false,.bool false,.slice none 0 0] 56))).heap[w.heap.size]? = some (.cells #[.int .i64 p.kind,.int .u32 p.mine,.int .u32 p.AL,.int .u32 p.yours,.int .u32 p.seq,.int .u32 p.AX,.int .u32 p.stamp,.int .u32 p.echo,.complex .f64 p.zr p.zi,.slice Ab p.body.length cb] 27 (0,0)) from (Below.heap_alloc _ _ _ (by simp)).trans (heap_alloc_new w _))
 have H:=Lib.hid h
 have OK:=Lib.hid hok
 have HS:=Lib.hid hS
 have EF:=Lib.hid hpr
 have Es:=Lib.hid hck
 have hbz:(AL == 0) = false:=by simp [hb0]
 have EO:=Lib.hid DX
 clear DX
 have G7:=Lib.hid hag
 clear hag
 clear hbr
 have hd4:(p.kind == 1) = false:=by simp [hkn]
 clear hkn
 clear h hok hS hpr hck hb0
 go_enter Try.func34,Try.ntmps34
 go_wp2_with fail
 refine Ap 3 (fun C HC => ?_)
 go_wp2_with (first | ((with_reducible refine AV (N:=17) rfl ?_); (refine wpList_load_row rfl 27 (.tmp 5) rfl w.heap.size (by rfl) 27 #[.int .i64 p.kind,.int .u32 p.mine,.int .u32 p.AL,.int .u32 p.yours,.int .u32 p.seq,.int .u32 p.AX,.int .u32 p.stamp,.int .u32 p.echo,.complex .f64 p.zr p.zi,.slice Ab p.body.length cb] (0,0) _ Fh.out Try.underlying27 rfl (by kernel_rfl) ?_)) | (go_at_call 20; (refine (check_any _ _ _ _ _ _ _ _ _ _ _ _ _ _ EF.out.zr EF.out.zi).mono ?_); (rintro e BH ⟨rfl,hb⟩); (rw [Es.out]); (have K0:=Lib.hid (TS.start (pc:=#[.int .i64 p.kind,.int .u32 p.mine,.int .u32 p.AL,.int .u32 p.yours,.int .u32 p.seq,.int .u32 p.AX,.int .u32 p.stamp,.int .u32 p.echo,.complex .f64 p.zr p.zi,.slice Ab p.body.length cb]) H.out HS.out hB (hb.mono (by simp)))); (clear hb); (have hl1:BH.cell? ⟨g,1,none⟩ = some (.int .i64 2):=(AA K0.out.at_.blk 1).trans (congrArg (fun x => some (Value.int .i64 x)) EO.out)); (have hp0:BH.cell? ⟨w.heap.size,0,none⟩ = some (.int .i64 p.kind):=(AA K0.out.pb 0).trans rfl); (have hp1:BH.cell? ⟨w.heap.size,1,none⟩ = some (.int .u32 p.mine):=(AA K0.out.pb 1).trans rfl)) | (go_at_call 76; (refine (Ci K0.out.at_ AL p.mine).mono ?_); (rintro e w1 ⟨rfl,rfl⟩); (rw [G7.out])))
 exact Z5
theorem SG {w:World} {B g:Nat} {Af Ac S:Nat → Prop} {L:Lk} {q o:Value} (h:At w B Af Ac g L q o) (hok:L.Ok) (hS:∀ k,holds Af Ac g k → S k) (hB:B ≤ w.heap.size) (AL:Int) (p:BL) (Ab:Option Addr) (cb:Nat)
  (hb0:AL ≠ 0) (hbr:0 ≤ AL ∧ AL < 4294967296) (hpr:p.JV) (hck:Aj p.kind p.mine p.AL p.yours p.seq p.AX p.stamp p.echo p.zr p.zi p.body.length = 0)  (DX:L.phase = 2) (hag:CX L AL p.mine = 0) (hkn:p.kind ≠ 1) (hmn:BQ L p = false) :
  Calls Try.prog 34 #[.pointer (some ⟨g,0,none⟩),.int .u32 AL,.agg #[.int .i64 p.kind,.int .u32 p.mine,.int .u32 p.AL,.int .u32 p.yours,.int .u32 p.seq,.int .u32 p.AX,.int .u32 p.stamp,.int .u32 p.echo,.complex .f64 p.zr p.zi,.slice Ab p.body.length cb]] w fun e w' => EW w B S g (L) false false false [] e w':=by
 have Fh:=Lib.hid (show (((w.alloc (.cells #[.int .i64 p.kind,.int .u32 p.mine,.int .u32 p.AL,.int .u32 p.yours,.int .u32 p.seq,.int .u32 p.AX,.int .u32 p.stamp,.int .u32 p.echo,.complex .f64 p.zr p.zi,.slice Ab p.body.length cb] 27)).alloc (.cells #[.bool false,.bool false,.bool false,.slice none 0 0] 56))).heap[w.heap.size]? = some (.cells #[.int .i64 p.kind,.int .u32 p.mine,.int .u32 p.AL,.int .u32 p.yours,.int .u32 p.seq,.int .u32 p.AX,.int .u32 p.stamp,.int .u32 p.echo,.complex .f64 p.zr p.zi,.slice Ab p.body.length cb] 27 (0,0)) from (Below.heap_alloc _ _ _ (by simp)).trans (heap_alloc_new w _))
 have H:=Lib.hid h
 have OK:=Lib.hid hok
 have HS:=Lib.hid hS
 have EF:=Lib.hid hpr
 have Es:=Lib.hid hck
 have hbz:(AL == 0) = false:=by simp [hb0]
 have EO:=Lib.hid DX
 clear DX
 have G7:=Lib.hid hag
 clear hag
 clear hbr
 have IJ:=Lib.hid hmn
 clear hmn
 have hd4:(p.kind == 1) = false:=by simp [hkn]
 clear hkn
 clear h hok hS hpr hck hb0
 go_enter Try.func34,Try.ntmps34
 go_wp2_with fail
 refine Ap 3 (fun C HC => ?_)
 go_wp2_with (first | ((with_reducible refine AV (N:=17) rfl ?_); (refine wpList_load_row rfl 27 (.tmp 5) rfl w.heap.size (by rfl) 27 #[.int .i64 p.kind,.int .u32 p.mine,.int .u32 p.AL,.int .u32 p.yours,.int .u32 p.seq,.int .u32 p.AX,.int .u32 p.stamp,.int .u32 p.echo,.complex .f64 p.zr p.zi,.slice Ab p.body.length cb] (0,0) _ Fh.out Try.underlying27 rfl (by kernel_rfl) ?_)) | (go_at_call 20; (refine (check_any _ _ _ _ _ _ _ _ _ _ _ _ _ _ EF.out.zr EF.out.zi).mono ?_); (rintro e BH ⟨rfl,hb⟩); (rw [Es.out]); (have K0:=Lib.hid (TS.start (pc:=#[.int .i64 p.kind,.int .u32 p.mine,.int .u32 p.AL,.int .u32 p.yours,.int .u32 p.seq,.int .u32 p.AX,.int .u32 p.stamp,.int .u32 p.echo,.complex .f64 p.zr p.zi,.slice Ab p.body.length cb]) H.out HS.out hB (hb.mono (by simp)))); (clear hb); (have hl1:BH.cell? ⟨g,1,none⟩ = some (.int .i64 2):=(AA K0.out.at_.blk 1).trans (congrArg (fun x => some (Value.int .i64 x)) EO.out)); (have hp0:BH.cell? ⟨w.heap.size,0,none⟩ = some (.int .i64 p.kind):=(AA K0.out.pb 0).trans rfl); (have hp1:BH.cell? ⟨w.heap.size,1,none⟩ = some (.int .u32 p.mine):=(AA K0.out.pb 1).trans rfl)) | (go_at_call 76; (refine (Ci K0.out.at_ AL p.mine).mono ?_); (rintro e w1 ⟨rfl,rfl⟩); (rw [G7.out])) | ((with_reducible refine AV (N:=59) rfl ?_); (refine Ce (by rfl) ?_); (refine wpList_load_row rfl 27 (.tmp 5) rfl w.heap.size (by rfl) 27 _ (0,0) _ (by first | exact K0.out.pb | exact (K0.out.drewN hB _).pb) Try.underlying27 rfl (by kernel_rfl) ?_)) | (go_at_call 77; (refine (DL K0.out.at_ p (.slice Ab p.body.length cb)).mono ?_); (rintro e CQ ⟨rfl,hb⟩); (have hme:BQ (L) p = false:=IJ.out); (rw [hme]); (clear hme); (have K1:=Lib.hid (K0.out.sub hB hb)); (clear hb); (clear hl1 hp0 hp1)))
 exact jU
end Go.Proofs.Ytnkkgofpifhoeaa.Lk
end
