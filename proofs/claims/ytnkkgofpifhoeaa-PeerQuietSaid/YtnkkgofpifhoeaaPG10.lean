/- What the laws of a pair are proved with: links and pairs in memory, what their methods do, what a pair keeps to (part 10). -/
import Derived.Test.YtnkkgofpifhoeaaPG09
import Derived.Laws.StructEq
set_option linter.unusedSimpArgs false
set_option linter.unusedVariables false
set_option maxRecDepth 100000
set_option maxHeartbeats 16000000
section
namespace Go.Proofs.Ytnkkgofpifhoeaa.o7
open Go.RowKit Go.Proofs.Ytnkkgofpifhoeaa.Base Go.Proofs.Ytnkkgofpifhoeaa.Pk Go.Proofs.YtnkkgofpifhoeaaW.PrintWords Go.Proofs.YtnkkgofpifhoeaaW.PrintLast Go.Proofs.Ytnkkgofpifhoeaa.Steps
theorem X3 (w:World):(Instr.index 108 table (.int .i64 2)).run Try.prog w = .ok (.agg #[.bool true,.bool true,.bool false,.bool true,.int .i64 22,.int .i64 1021]) w:=by kernel_rfl
def ER (w:World) (L:List Int) (e:Ending) (w':World):Prop:=∃ v,e = .returned (.tuple #[v,.int .i64 0]) ∧ (Kd.int .u8).R 5 w' w.heap.size (fun _ => True) v L ∧ Below w.heap.size w w'
theorem Tm (mine AL yours seq AX stamp echo:Int) (zr zi:Nat) (A:Option Addr) (c:Nat) (body:List Int) (w:World) (hC:Kd.C (Kd.int .u8) w A body.length body) (hbl:body.length ≤ 20000)
  (hck:Ah 2 mine AL yours seq AX stamp echo zr zi body.length = 0) (hp:zr < 18446744073709551616) (hq:zi < 18446744073709551616) :
  Calls Try.prog 19 #[.agg #[.int .i64 2,.int .u32 mine,.int .u32 AL,.int .u32 yours,.int .u32 seq,.int .u32 AX,.int .u32 stamp,.int .u32 echo,.complex .f64 zr zi,.slice A body.length c]] w (ER w (((((([2] ++ CO (IntKind.u64.wrap mine)) ++ CO (IntKind.u64.wrap AL)) ++ CO (IntKind.u64.wrap yours)) ++ CO (IntKind.u64.wrap seq)) ++ CO (IntKind.u64.wrap AX)) ++ body)):=by
 have DZ:=Try.underlying27
 have FH:=Try.underlying107
 have hix:=X3
 have FK:=Lib.hid hck
 have HC:=Lib.hid hC
 have HL:=Lib.hid hbl
 have Bd:=Lib.hid hp
 have X4:=Lib.hid hq
 clear hck hC hbl hp hq
 go_enter Try.func19,Try.ntmps19
 go_wp2_with (go_at_call 20; refine (check_any _ _ _ _ _ _ _ _ _ _ _ _ _ _ Bd.out X4.out).mono ?_; rintro e w1 ⟨rfl,hb⟩; rw [FK.out]; have HX:=Lib.hid ((hb.block w.heap.size (by simp)).trans (heap_alloc_new w (.cells #[.int .i64 2,.int .u32 mine,.int .u32 AL,.int .u32 yours,.int .u32 seq,.int .u32 AX,.int .u32 stamp,.int .u32 echo,.complex .f64 zr zi,.slice A body.length c] 27))); have HW:=Lib.hid (((Below.refl w.heap.size w).alloc (Nat.le_refl _) (.cells #[.int .i64 2,.int .u32 mine,.int .u32 AL,.int .u32 yours,.int .u32 seq,.int .u32 AX,.int .u32 stamp,.int .u32 echo,.complex .f64 zr zi,.slice A body.length c] 27)).trans (hb.mono (by simp))); clear hb)
 have DJ:w1.drew.heap[w.heap.size]? = some (.cells #[.int .i64 2,.int .u32 mine,.int .u32 AL,.int .u32 yours,.int .u32 seq,.int .u32 AX,.int .u32 stamp,.int .u32 echo,.complex .f64 zr zi,.slice A body.length c] 27 (0,0)):=HX.out
 have Aq:Below w.heap.size w w1.drew:=Aj HW.out
 clear HX HW
 have HW:=Lib.hid Aq
 clear Aq
 refine Aw (n:=6) (S:=fun w' => w'.heap[w.heap.size]? = some (.cells #[.int .i64 2,.int .u32 mine,.int .u32 AL,.int .u32 yours,.int .u32 seq,.int .u32 AX,.int .u32 stamp,.int .u32 echo,.complex .f64 zr zi,.slice A body.length c] 27 (0,0))) (ds:=[]) gY (by kernel_rfl) rfl rfl (DJ) (fun hHeld => ?_)
 generalize w1.drew = w2 at HW hHeld ⊢
 refine pu 1 13 gZ ?_
 refine tk 2 14 gm hHeld ?_ (hf:=by intro w' s0; have hc0:w'.cell? ⟨w.heap.size,0,none⟩ = some (.int .i64 2):=(AA s0 0).trans rfl; clear s0; go_simp; with_reducible rfl)
 refine D7 (σ:=Nat) 1 ZB (fun g => [(12,table),(15,.agg #[.bool true,.bool true,.bool false,.bool true,.int .i64 22,.int .i64 1021]),(5,.pointer (some ⟨g,0,none⟩))]) (fun g w' => w'.heap[g]? = some (.cells #[.bool false,.bool false,.bool false,.bool false,.int .i64 0,.int .i64 0] 107 (0,0)) ∧ Below w.heap.size w w' ∧ w.heap.size < g ∧ w'.heap[w.heap.size]? = some (.cells #[.int .i64 2,.int .u32 mine,.int .u32 AL,.int .u32 yours,.int .u32 seq,.int .u32 AX,.int .u32 stamp,.int .u32 echo,.complex .f64 zr zi,.slice A body.length c] 27 (0,0))) ?_ ?_
 rotate_left
 ·intro hcont
  exact Z2
 intro g w3 ⟨hbx,hbel,hgt,hHeld⟩
 clear HW
 refine Dy (a':=?_) ?_ ?_
 rotate_left
 ·show Ak _ _ = _
  simp only [Ak,Act.put,sA,sZ,sS]
  rfl
 have hd0:w3.cell? ⟨g,0,none⟩ = some (.bool false):=(AA hbx 0).trans rfl
 have hf0:=AB hbx 0
 have hd1:w3.cell? ⟨g,1,none⟩ = some (.bool false):=(AA hbx 1).trans rfl
 have hf1:=AB hbx 1
 have hd2:w3.cell? ⟨g,2,none⟩ = some (.bool false):=(AA hbx 2).trans rfl
 have hf2:=AB hbx 2
 have hd3:w3.cell? ⟨g,3,none⟩ = some (.bool false):=(AA hbx 3).trans rfl
 have hf3:=AB hbx 3
 have hd4:w3.cell? ⟨g,4,none⟩ = some (.int .i64 0):=(AA hbx 4).trans rfl
 have hf4:=AB hbx 4
 have hd5:w3.cell? ⟨g,5,none⟩ = some (.int .i64 0):=(AA hbx 5).trans rfl
 have hf5:=AB hbx 5
 refine on 5 none gu fun K hK => ?_
 refine BO (fun wz => wz.heap[g]? = some (.cells #[.bool true,.bool true,.bool false,.bool true,.int .i64 22,.int .i64 1021] 107 (0,0)) ∧ At g w3 wz) (by rfl) rfl ⟨_,by first | (go_simp; done) | (go_simp; rfl),?_,?_⟩ (fun w4 hF => ?_)
 ·skip
  exact iF
 ·repeat (first | (with_reducible exact At.refl _ _) | refine At.set ?_ _ _)
 obtain ⟨hB4,hat⟩:=hF
 have Om:=(hat.block w.heap.size (by omega)).trans hHeld
 have HW:=Lib.hid (hat.below hbel (by omega))
 have HB:=Lib.hid hB4
 clear hbx hbel hat hHeld hB4 hd0 hf0 hd1 hf1 hd2 hf2 hd3 hf3 hd4 hf4 hd5 hf5
 refine hK.out _ _ Om (fun hHeld => ?_)
 clear hK K Om
 refine BN (by kernel_rfl) ?_
 have HX:=Lib.hid hHeld
 clear hHeld
 go_wp2_with fail
 have DJ:w4.drew.heap[w.heap.size]? = some (.cells #[.int .i64 2,.int .u32 mine,.int .u32 AL,.int .u32 yours,.int .u32 seq,.int .u32 AX,.int .u32 stamp,.int .u32 echo,.complex .f64 zr zi,.slice A body.length c] 27 (0,0)):=HX.out
 have Bj:w4.drew.heap[g]? = some (.cells #[.bool true,.bool true,.bool false,.bool true,.int .i64 22,.int .i64 1021] 107 (0,0)):=HB.out
 have Aq:Below w.heap.size w w4.drew:=Aj HW.out
 clear HX HB HW
 have HB:=Lib.hid Bj
 have HW:=Lib.hid Aq
 clear Bj Aq
 refine Aw (n:=17) (S:=fun w' => w'.heap[w.heap.size]? = some (.cells #[.int .i64 2,.int .u32 mine,.int .u32 AL,.int .u32 yours,.int .u32 seq,.int .u32 AX,.int .u32 stamp,.int .u32 echo,.complex .f64 zr zi,.slice A body.length c] 27 (0,0))) (ds:=[]) di (by kernel_rfl) rfl rfl (DJ) (fun hHeld => ?_)
 generalize w4.drew = w5 at HB HW hHeld ⊢
 refine pu 0 16 dm ?_
 refine tk 1 17 dw hHeld ?_ (hf:=by intro w' s0; have hc0:w'.cell? ⟨w.heap.size,0,none⟩ = some (.int .i64 2):=(AA s0 0).trans rfl; clear s0; go_simp; with_reducible rfl)
 refine pu 2 18 eF ?_
 refine pu 4 20 eG ?_
 refine tk 5 21 eH hHeld ?_ (hf:=by intro w' s0; have hc1:w'.cell? ⟨w.heap.size,1,none⟩ = some (.int .u32 mine):=(AA s0 1).trans rfl; clear s0; go_simp; with_reducible rfl)
 refine pu 6 22 eP ?_
 refine pu 8 24 eX ?_
 refine tk 9 25 eu hHeld ?_ (hf:=by intro w' s0; have hc2:w'.cell? ⟨w.heap.size,2,none⟩ = some (.int .u32 AL):=(AA s0 2).trans rfl; clear s0; go_simp; with_reducible rfl)
 refine pu 10 26 fB ?_
 refine pu 12 28 fD ?_
 refine tk 13 29 fF hHeld ?_ (hf:=by intro w' s0; have hc3:w'.cell? ⟨w.heap.size,3,none⟩ = some (.int .u32 yours):=(AA s0 3).trans rfl; clear s0; go_simp; with_reducible rfl)
 refine pu 14 30 fH ?_
 refine on 3 (some 19) fK fun K hK => ?_
 refine Gt (v:=.slice (some ⟨w5.heap.size,0,none⟩) 1 1) (by rfl) rfl (w1:=w5.alloc (.cells #[.int .u8 2] 5)) ?_ ?_
 ·first | (go_simp; done) | (go_simp; rfl)
 have EJ:=(Below.refl w5.heap.size w5).alloc (Nat.le_refl _) (.cells #[.int .u8 2] 5)
 have CZ:=QI w5 w.heap.size [2] HW.out.size (by decide)
 have Lt:(Kd.int .u8).R 5 (w5.alloc (.cells #[.int .u8 2] 5)) w.heap.size (fun _ => True) (.slice (some ⟨w5.heap.size,0,none⟩) 1 1) [2]:=CZ
 have CG:=(EJ.block w.heap.size (AU hHeld)).trans hHeld
 have DU:=(EJ.block g (AU HB.out)).trans HB.out
 have Aq:=HW.out.trans (EJ.mono HW.out.size)
 generalize hv0:Value.slice (some ⟨w5.heap.size,0,none⟩) 1 1 = v0 at Lt ⊢
 clear hv0 EJ CZ
 generalize w5.alloc (.cells #[.int .u8 2] 5) = w6 at Lt CG DU Aq ⊢
 clear HW HB
 have HR:=Lib.hid Lt
 have HW:=Lib.hid Aq
 have HB:=Lib.hid DU
 clear Lt Aq DU
 refine hK.out _ _ CG (fun hHeld => ?_)
 clear hK K CG
 refine nm 19 ?_
 refine on 7 (some 23) fO fun K hK => ?_
 refine BK Try.func64 (by kernel_rfl) rfl #[v0,.int .u64 (IntKind.u64.wrap mine),.int .i64 4] (by rfl) rfl rfl (by (try simp only [List.map_toArray,List.map_cons,List.map_nil]); first | done | rfl) ?_
 refine (Bo w _ _ _ _ HW.out HR.out (by have:=HL.out; simp [CO,Di]; try omega)).mono ?_
 rintro e w7 ⟨v7,rfl,CZ,hBl,hkeep⟩
 have CG:=hkeep w.heap.size _ 27 (by decide) hHeld
 have DU:=hkeep g _ 107 (by decide) HB.out
 clear HR HB HW hkeep
 have HR:=Lib.hid CZ
 have HB:=Lib.hid DU
 have HW:=Lib.hid hBl
 clear CZ DU hBl
 refine ⟨_,rfl,?_⟩
 refine hK.out _ _ CG (fun hHeld => ?_)
 clear hK K CG
 refine nm 23 ?_
 refine on 11 (some 27) M10 fun K hK => ?_
 refine BK Try.func64 (by kernel_rfl) rfl #[v7,.int .u64 (IntKind.u64.wrap AL),.int .i64 4] (by rfl) rfl rfl (by (try simp only [List.map_toArray,List.map_cons,List.map_nil]); first | done | rfl) ?_
 refine (Bo w _ _ _ _ HW.out HR.out (by have:=HL.out; simp [CO,Di]; try omega)).mono ?_
 rintro e w8 ⟨v8,rfl,CZ,hBl,hkeep⟩
 have CG:=hkeep w.heap.size _ 27 (by decide) hHeld
 have DU:=hkeep g _ 107 (by decide) HB.out
 clear HR HB HW hkeep
 have HR:=Lib.hid CZ
 have HB:=Lib.hid DU
 have HW:=Lib.hid hBl
 clear CZ DU hBl
 refine ⟨_,rfl,?_⟩
 refine hK.out _ _ CG (fun hHeld => ?_)
 clear hK K CG
 refine nm 27 ?_
 refine on 15 (some 31) M13 fun K hK => ?_
 refine BK Try.func64 (by kernel_rfl) rfl #[v8,.int .u64 (IntKind.u64.wrap yours),.int .i64 4] (by rfl) rfl rfl (by (try simp only [List.map_toArray,List.map_cons,List.map_nil]); first | done | rfl) ?_
 refine (Bo w _ _ _ _ HW.out HR.out (by have:=HL.out; simp [CO,Di]; try omega)).mono ?_
 rintro e w9 ⟨v9,rfl,CZ,hBl,hkeep⟩
 have CG:=hkeep w.heap.size _ 27 (by decide) hHeld
 have DU:=hkeep g _ 107 (by decide) HB.out
 clear HR HB HW hkeep
 have HR:=Lib.hid CZ
 have HB:=Lib.hid DU
 have HW:=Lib.hid hBl
 clear CZ DU hBl
 refine ⟨_,rfl,?_⟩
 refine hK.out _ _ CG (fun hHeld => ?_)
 clear hK K CG
 refine nm 31 ?_
 refine pu 16 6 fP ?_
 refine BN (by kernel_rfl) ?_
 have HX:=Lib.hid hHeld
 clear hHeld
 have hc0:w9.cell? ⟨w.heap.size,0,none⟩ = some (.int .i64 2):=(AA HX.out 0).trans rfl
 have hc1:w9.cell? ⟨w.heap.size,1,none⟩ = some (.int .u32 mine):=(AA HX.out 1).trans rfl
 have hc2:w9.cell? ⟨w.heap.size,2,none⟩ = some (.int .u32 AL):=(AA HX.out 2).trans rfl
 have hc3:w9.cell? ⟨w.heap.size,3,none⟩ = some (.int .u32 yours):=(AA HX.out 3).trans rfl
 have hc4:w9.cell? ⟨w.heap.size,4,none⟩ = some (.int .u32 seq):=(AA HX.out 4).trans rfl
 have hc5:w9.cell? ⟨w.heap.size,5,none⟩ = some (.int .u32 AX):=(AA HX.out 5).trans rfl
 have hc6:w9.cell? ⟨w.heap.size,6,none⟩ = some (.int .u32 stamp):=(AA HX.out 6).trans rfl
 have Ih:w9.cell? ⟨w.heap.size,7,none⟩ = some (.int .u32 echo):=(AA HX.out 7).trans rfl
 have hc8:w9.cell? ⟨w.heap.size,8,none⟩ = some (.complex .f64 zr zi):=(AA HX.out 8).trans rfl
 have Hu:w9.cell? ⟨w.heap.size,9,none⟩ = some (.slice A body.length c):=(AA HX.out 9).trans rfl
 have hr0:w9.cell? ⟨g,0,none⟩ = some (.bool true):=(AA HB.out 0).trans rfl
 have hr1:w9.cell? ⟨g,1,none⟩ = some (.bool true):=(AA HB.out 1).trans rfl
 have hr2:w9.cell? ⟨g,2,none⟩ = some (.bool false):=(AA HB.out 2).trans rfl
 have hr3:w9.cell? ⟨g,3,none⟩ = some (.bool true):=(AA HB.out 3).trans rfl
 go_wp2_with (first | ((go_at_call 64); (with_reducible refine (Bo w w9 v9 _ _ HW.out HR.out (by have:=HL.out; simp [CO,Di]; try omega)).mono ?_); (rintro e w10 ⟨v10,rfl,CZ,hBl,hkeep⟩); (have CG:=hkeep w.heap.size _ 27 (by decide) HX.out); (have DU:=hkeep g _ 107 (by decide) HB.out); (clear HR HB HW hkeep); (have HR:=Lib.hid CZ); (have HB:=Lib.hid DU); (have HW:=Lib.hid hBl); (clear CZ DU hBl); (clear HX); (have HX:=Lib.hid CG); (clear CG); (have hc0:w10.cell? ⟨w.heap.size,0,none⟩ = some (.int .i64 2):=(AA HX.out 0).trans rfl); (have hc1:w10.cell? ⟨w.heap.size,1,none⟩ = some (.int .u32 mine):=(AA HX.out 1).trans rfl); (have hc2:w10.cell? ⟨w.heap.size,2,none⟩ = some (.int .u32 AL):=(AA HX.out 2).trans rfl); (have hc3:w10.cell? ⟨w.heap.size,3,none⟩ = some (.int .u32 yours):=(AA HX.out 3).trans rfl); (have hc4:w10.cell? ⟨w.heap.size,4,none⟩ = some (.int .u32 seq):=(AA HX.out 4).trans rfl); (have hc5:w10.cell? ⟨w.heap.size,5,none⟩ = some (.int .u32 AX):=(AA HX.out 5).trans rfl); (have hc6:w10.cell? ⟨w.heap.size,6,none⟩ = some (.int .u32 stamp):=(AA HX.out 6).trans rfl); (have Ih:w10.cell? ⟨w.heap.size,7,none⟩ = some (.int .u32 echo):=(AA HX.out 7).trans rfl); (have hc8:w10.cell? ⟨w.heap.size,8,none⟩ = some (.complex .f64 zr zi):=(AA HX.out 8).trans rfl); (have Hu:w10.cell? ⟨w.heap.size,9,none⟩ = some (.slice A body.length c):=(AA HX.out 9).trans rfl); (have hr0:w10.cell? ⟨g,0,none⟩ = some (.bool true):=(AA HB.out 0).trans rfl); (have hr1:w10.cell? ⟨g,1,none⟩ = some (.bool true):=(AA HB.out 1).trans rfl); (have hr2:w10.cell? ⟨g,2,none⟩ = some (.bool false):=(AA HB.out 2).trans rfl); (have hr3:w10.cell? ⟨g,3,none⟩ = some (.bool true):=(AA HB.out 3).trans rfl)) | ((go_at_call 64); (with_reducible refine (Bo w w10 v10 _ _ HW.out HR.out (by have:=HL.out; simp [CO,Di]; try omega)).mono ?_); (rintro e EX ⟨v11,rfl,CZ,hBl,hkeep⟩); (have CG:=hkeep w.heap.size _ 27 (by decide) HX.out); (have DU:=hkeep g _ 107 (by decide) HB.out); (clear HR HB HW hkeep); (have HR:=Lib.hid CZ); (have HB:=Lib.hid DU); (have HW:=Lib.hid hBl); (clear CZ DU hBl); (clear HX); (have HX:=Lib.hid CG); (clear CG); (have hc0:EX.cell? ⟨w.heap.size,0,none⟩ = some (.int .i64 2):=(AA HX.out 0).trans rfl); (have hc1:EX.cell? ⟨w.heap.size,1,none⟩ = some (.int .u32 mine):=(AA HX.out 1).trans rfl); (have hc2:EX.cell? ⟨w.heap.size,2,none⟩ = some (.int .u32 AL):=(AA HX.out 2).trans rfl); (have hc3:EX.cell? ⟨w.heap.size,3,none⟩ = some (.int .u32 yours):=(AA HX.out 3).trans rfl); (have hc4:EX.cell? ⟨w.heap.size,4,none⟩ = some (.int .u32 seq):=(AA HX.out 4).trans rfl); (have hc5:EX.cell? ⟨w.heap.size,5,none⟩ = some (.int .u32 AX):=(AA HX.out 5).trans rfl); (have hc6:EX.cell? ⟨w.heap.size,6,none⟩ = some (.int .u32 stamp):=(AA HX.out 6).trans rfl); (have Ih:EX.cell? ⟨w.heap.size,7,none⟩ = some (.int .u32 echo):=(AA HX.out 7).trans rfl); (have hc8:EX.cell? ⟨w.heap.size,8,none⟩ = some (.complex .f64 zr zi):=(AA HX.out 8).trans rfl); (have Hu:EX.cell? ⟨w.heap.size,9,none⟩ = some (.slice A body.length c):=(AA HX.out 9).trans rfl); (have hr0:EX.cell? ⟨g,0,none⟩ = some (.bool true):=(AA HB.out 0).trans rfl); (have hr1:EX.cell? ⟨g,1,none⟩ = some (.bool true):=(AA HB.out 1).trans rfl); (have hr2:EX.cell? ⟨g,2,none⟩ = some (.bool false):=(AA HB.out 2).trans rfl); (have hr3:EX.cell? ⟨g,3,none⟩ = some (.bool true):=(AA HB.out 3).trans rfl)) | ((with_reducible refine AV (N:=78) rfl ?_); (refine Kd.EP (h1:=fun _ => rfl) (Value.int .u8) 0 (w0:=w) w.heap.size rfl (.tmp 75) (.tmp 77) 22 5 (.int .u8 0) 1 rfl Try.underlying22 info5 rfl (by decide) v11 _ (body) _ _ _ (fun _ => True) rfl rfl (fun _ _ => trivial) HR.out (Kd.BQ HC.out HW.out) HW.out HW.out.size (by have:=HL.out; simp [CO,Di]; try omega) ?_); (intro v12 w12 CZ hBl _ _); (clear HR HW); (have HR:=Lib.hid CZ); (have HW:=Lib.hid hBl); (clear CZ hBl)))
 go_ret2
 unfold ER
 exact ⟨_,rfl,HR.out,HW.out⟩
end Go.Proofs.Ytnkkgofpifhoeaa.o7
end
section
namespace Go.Proofs.Ytnkkgofpifhoeaa.o8
open Go.RowKit Go.Proofs.Ytnkkgofpifhoeaa.Base Go.Proofs.Ytnkkgofpifhoeaa.Pk Go.Proofs.YtnkkgofpifhoeaaW.PrintWords Go.Proofs.YtnkkgofpifhoeaaW.PrintLast Go.Proofs.Ytnkkgofpifhoeaa.Steps
theorem X3 (w:World):(Instr.index 108 table (.int .i64 3)).run Try.prog w = .ok (.agg #[.bool false,.bool true,.bool false,.bool false,.int .i64 17,.int .i64 17]) w:=by kernel_rfl
def ER (w:World) (L:List Int) (e:Ending) (w':World):Prop:=∃ v,e = .returned (.tuple #[v,.int .i64 0]) ∧ (Kd.int .u8).R 5 w' w.heap.size (fun _ => True) v L ∧ Below w.heap.size w w'
theorem Tn (mine AL yours seq AX stamp echo:Int) (zr zi:Nat) (A:Option Addr) (c:Nat) (body:List Int) (w:World) (hC:Kd.C (Kd.int .u8) w A body.length body) (hbl:body.length ≤ 20000)
  (hck:Ah 3 mine AL yours seq AX stamp echo zr zi body.length = 0) (hp:zr < 18446744073709551616) (hq:zi < 18446744073709551616) :
  Calls Try.prog 19 #[.agg #[.int .i64 3,.int .u32 mine,.int .u32 AL,.int .u32 yours,.int .u32 seq,.int .u32 AX,.int .u32 stamp,.int .u32 echo,.complex .f64 zr zi,.slice A body.length c]] w (ER w ((((([3] ++ CO (IntKind.u64.wrap mine)) ++ CO (IntKind.u64.wrap AL)) ++ CO (IntKind.u64.wrap yours)) ++ CO (IntKind.u64.wrap AX)) ++ body)):=by
 have DZ:=Try.underlying27
 have FH:=Try.underlying107
 have hix:=X3
 have FK:=Lib.hid hck
 have HC:=Lib.hid hC
 have HL:=Lib.hid hbl
 have Bd:=Lib.hid hp
 have X4:=Lib.hid hq
 clear hck hC hbl hp hq
 go_enter Try.func19,Try.ntmps19
 go_wp2_with (go_at_call 20; refine (check_any _ _ _ _ _ _ _ _ _ _ _ _ _ _ Bd.out X4.out).mono ?_; rintro e w1 ⟨rfl,hb⟩; rw [FK.out]; have HX:=Lib.hid ((hb.block w.heap.size (by simp)).trans (heap_alloc_new w (.cells #[.int .i64 3,.int .u32 mine,.int .u32 AL,.int .u32 yours,.int .u32 seq,.int .u32 AX,.int .u32 stamp,.int .u32 echo,.complex .f64 zr zi,.slice A body.length c] 27))); have HW:=Lib.hid (((Below.refl w.heap.size w).alloc (Nat.le_refl _) (.cells #[.int .i64 3,.int .u32 mine,.int .u32 AL,.int .u32 yours,.int .u32 seq,.int .u32 AX,.int .u32 stamp,.int .u32 echo,.complex .f64 zr zi,.slice A body.length c] 27)).trans (hb.mono (by simp))); clear hb)
 have DJ:w1.drew.heap[w.heap.size]? = some (.cells #[.int .i64 3,.int .u32 mine,.int .u32 AL,.int .u32 yours,.int .u32 seq,.int .u32 AX,.int .u32 stamp,.int .u32 echo,.complex .f64 zr zi,.slice A body.length c] 27 (0,0)):=HX.out
 have Aq:Below w.heap.size w w1.drew:=Aj HW.out
 clear HX HW
 have HW:=Lib.hid Aq
 clear Aq
 refine Aw (n:=6) (S:=fun w' => w'.heap[w.heap.size]? = some (.cells #[.int .i64 3,.int .u32 mine,.int .u32 AL,.int .u32 yours,.int .u32 seq,.int .u32 AX,.int .u32 stamp,.int .u32 echo,.complex .f64 zr zi,.slice A body.length c] 27 (0,0))) (ds:=[]) gY (by kernel_rfl) rfl rfl (DJ) (fun hHeld => ?_)
 generalize w1.drew = w2 at HW hHeld ⊢
 refine pu 1 13 gZ ?_
 refine tk 2 14 gm hHeld ?_ (hf:=by intro w' s0; have hc0:w'.cell? ⟨w.heap.size,0,none⟩ = some (.int .i64 3):=(AA s0 0).trans rfl; clear s0; go_simp; with_reducible rfl)
 refine D7 (σ:=Nat) 1 ZB (fun g => [(12,table),(15,.agg #[.bool false,.bool true,.bool false,.bool false,.int .i64 17,.int .i64 17]),(5,.pointer (some ⟨g,0,none⟩))]) (fun g w' => w'.heap[g]? = some (.cells #[.bool false,.bool false,.bool false,.bool false,.int .i64 0,.int .i64 0] 107 (0,0)) ∧ Below w.heap.size w w' ∧ w.heap.size < g ∧ w'.heap[w.heap.size]? = some (.cells #[.int .i64 3,.int .u32 mine,.int .u32 AL,.int .u32 yours,.int .u32 seq,.int .u32 AX,.int .u32 stamp,.int .u32 echo,.complex .f64 zr zi,.slice A body.length c] 27 (0,0))) ?_ ?_
 rotate_left
 ·intro hcont
  exact Z2
 intro g w3 ⟨hbx,hbel,hgt,hHeld⟩
 clear HW
 refine Dy (a':=?_) ?_ ?_
 rotate_left
 ·show Ak _ _ = _
  simp only [Ak,Act.put,sA,sZ,sS]
  rfl
 have hd0:w3.cell? ⟨g,0,none⟩ = some (.bool false):=(AA hbx 0).trans rfl
 have hf0:=AB hbx 0
 have hd1:w3.cell? ⟨g,1,none⟩ = some (.bool false):=(AA hbx 1).trans rfl
 have hf1:=AB hbx 1
 have hd2:w3.cell? ⟨g,2,none⟩ = some (.bool false):=(AA hbx 2).trans rfl
 have hf2:=AB hbx 2
 have hd3:w3.cell? ⟨g,3,none⟩ = some (.bool false):=(AA hbx 3).trans rfl
 have hf3:=AB hbx 3
 have hd4:w3.cell? ⟨g,4,none⟩ = some (.int .i64 0):=(AA hbx 4).trans rfl
 have hf4:=AB hbx 4
 have hd5:w3.cell? ⟨g,5,none⟩ = some (.int .i64 0):=(AA hbx 5).trans rfl
 have hf5:=AB hbx 5
 refine on 5 none gu fun K hK => ?_
 refine BO (fun wz => wz.heap[g]? = some (.cells #[.bool false,.bool true,.bool false,.bool false,.int .i64 17,.int .i64 17] 107 (0,0)) ∧ At g w3 wz) (by rfl) rfl ⟨_,by first | (go_simp; done) | (go_simp; rfl),?_,?_⟩ (fun w4 hF => ?_)
 ·skip
  exact iI
 ·repeat (first | (with_reducible exact At.refl _ _) | refine At.set ?_ _ _)
 obtain ⟨hB4,hat⟩:=hF
 have Om:=(hat.block w.heap.size (by omega)).trans hHeld
 have HW:=Lib.hid (hat.below hbel (by omega))
 have HB:=Lib.hid hB4
 clear hbx hbel hat hHeld hB4 hd0 hf0 hd1 hf1 hd2 hf2 hd3 hf3 hd4 hf4 hd5 hf5
 refine hK.out _ _ Om (fun hHeld => ?_)
 clear hK K Om
 refine BN (by kernel_rfl) ?_
 have HX:=Lib.hid hHeld
 clear hHeld
 go_wp2_with fail
 have DJ:w4.drew.heap[w.heap.size]? = some (.cells #[.int .i64 3,.int .u32 mine,.int .u32 AL,.int .u32 yours,.int .u32 seq,.int .u32 AX,.int .u32 stamp,.int .u32 echo,.complex .f64 zr zi,.slice A body.length c] 27 (0,0)):=HX.out
 have Bj:w4.drew.heap[g]? = some (.cells #[.bool false,.bool true,.bool false,.bool false,.int .i64 17,.int .i64 17] 107 (0,0)):=HB.out
 have Aq:Below w.heap.size w w4.drew:=Aj HW.out
 clear HX HB HW
 have HB:=Lib.hid Bj
 have HW:=Lib.hid Aq
 clear Bj Aq
 refine Aw (n:=17) (S:=fun w' => w'.heap[w.heap.size]? = some (.cells #[.int .i64 3,.int .u32 mine,.int .u32 AL,.int .u32 yours,.int .u32 seq,.int .u32 AX,.int .u32 stamp,.int .u32 echo,.complex .f64 zr zi,.slice A body.length c] 27 (0,0))) (ds:=[]) di (by kernel_rfl) rfl rfl (DJ) (fun hHeld => ?_)
 generalize w4.drew = w5 at HB HW hHeld ⊢
 refine pu 0 16 dm ?_
 refine tk 1 17 dw hHeld ?_ (hf:=by intro w' s0; have hc0:w'.cell? ⟨w.heap.size,0,none⟩ = some (.int .i64 3):=(AA s0 0).trans rfl; clear s0; go_simp; with_reducible rfl)
 refine pu 2 18 eF ?_
 refine pu 4 20 eG ?_
 refine tk 5 21 eH hHeld ?_ (hf:=by intro w' s0; have hc1:w'.cell? ⟨w.heap.size,1,none⟩ = some (.int .u32 mine):=(AA s0 1).trans rfl; clear s0; go_simp; with_reducible rfl)
 refine pu 6 22 eP ?_
 refine pu 8 24 eX ?_
 refine tk 9 25 eu hHeld ?_ (hf:=by intro w' s0; have hc2:w'.cell? ⟨w.heap.size,2,none⟩ = some (.int .u32 AL):=(AA s0 2).trans rfl; clear s0; go_simp; with_reducible rfl)
 refine pu 10 26 fB ?_
 refine pu 12 28 fD ?_
 refine tk 13 29 fF hHeld ?_ (hf:=by intro w' s0; have hc3:w'.cell? ⟨w.heap.size,3,none⟩ = some (.int .u32 yours):=(AA s0 3).trans rfl; clear s0; go_simp; with_reducible rfl)
 refine pu 14 30 fH ?_
 refine on 3 (some 19) fK fun K hK => ?_
 refine Gt (v:=.slice (some ⟨w5.heap.size,0,none⟩) 1 1) (by rfl) rfl (w1:=w5.alloc (.cells #[.int .u8 3] 5)) ?_ ?_
 ·first | (go_simp; done) | (go_simp; rfl)
 have EJ:=(Below.refl w5.heap.size w5).alloc (Nat.le_refl _) (.cells #[.int .u8 3] 5)
 have CZ:=QI w5 w.heap.size [3] HW.out.size (by decide)
 have Lt:(Kd.int .u8).R 5 (w5.alloc (.cells #[.int .u8 3] 5)) w.heap.size (fun _ => True) (.slice (some ⟨w5.heap.size,0,none⟩) 1 1) [3]:=CZ
 have CG:=(EJ.block w.heap.size (AU hHeld)).trans hHeld
 have DU:=(EJ.block g (AU HB.out)).trans HB.out
 have Aq:=HW.out.trans (EJ.mono HW.out.size)
 generalize hv0:Value.slice (some ⟨w5.heap.size,0,none⟩) 1 1 = v0 at Lt ⊢
 clear hv0 EJ CZ
 generalize w5.alloc (.cells #[.int .u8 3] 5) = w6 at Lt CG DU Aq ⊢
 clear HW HB
 have HR:=Lib.hid Lt
 have HW:=Lib.hid Aq
 have HB:=Lib.hid DU
 clear Lt Aq DU
 refine hK.out _ _ CG (fun hHeld => ?_)
 clear hK K CG
 refine nm 19 ?_
 refine on 7 (some 23) fO fun K hK => ?_
 refine BK Try.func64 (by kernel_rfl) rfl #[v0,.int .u64 (IntKind.u64.wrap mine),.int .i64 4] (by rfl) rfl rfl (by (try simp only [List.map_toArray,List.map_cons,List.map_nil]); first | done | rfl) ?_
 refine (Bo w _ _ _ _ HW.out HR.out (by have:=HL.out; simp [CO,Di]; try omega)).mono ?_
 rintro e w7 ⟨v7,rfl,CZ,hBl,hkeep⟩
 have CG:=hkeep w.heap.size _ 27 (by decide) hHeld
 have DU:=hkeep g _ 107 (by decide) HB.out
 clear HR HB HW hkeep
 have HR:=Lib.hid CZ
 have HB:=Lib.hid DU
 have HW:=Lib.hid hBl
 clear CZ DU hBl
 refine ⟨_,rfl,?_⟩
 refine hK.out _ _ CG (fun hHeld => ?_)
 clear hK K CG
 refine nm 23 ?_
 refine on 11 (some 27) M10 fun K hK => ?_
 refine BK Try.func64 (by kernel_rfl) rfl #[v7,.int .u64 (IntKind.u64.wrap AL),.int .i64 4] (by rfl) rfl rfl (by (try simp only [List.map_toArray,List.map_cons,List.map_nil]); first | done | rfl) ?_
 refine (Bo w _ _ _ _ HW.out HR.out (by have:=HL.out; simp [CO,Di]; try omega)).mono ?_
 rintro e w8 ⟨v8,rfl,CZ,hBl,hkeep⟩
 have CG:=hkeep w.heap.size _ 27 (by decide) hHeld
 have DU:=hkeep g _ 107 (by decide) HB.out
 clear HR HB HW hkeep
 have HR:=Lib.hid CZ
 have HB:=Lib.hid DU
 have HW:=Lib.hid hBl
 clear CZ DU hBl
 refine ⟨_,rfl,?_⟩
 refine hK.out _ _ CG (fun hHeld => ?_)
 clear hK K CG
 refine nm 27 ?_
 refine on 15 (some 31) M13 fun K hK => ?_
 refine BK Try.func64 (by kernel_rfl) rfl #[v8,.int .u64 (IntKind.u64.wrap yours),.int .i64 4] (by rfl) rfl rfl (by (try simp only [List.map_toArray,List.map_cons,List.map_nil]); first | done | rfl) ?_
 refine (Bo w _ _ _ _ HW.out HR.out (by have:=HL.out; simp [CO,Di]; try omega)).mono ?_
 rintro e w9 ⟨v9,rfl,CZ,hBl,hkeep⟩
 have CG:=hkeep w.heap.size _ 27 (by decide) hHeld
 have DU:=hkeep g _ 107 (by decide) HB.out
 clear HR HB HW hkeep
 have HR:=Lib.hid CZ
 have HB:=Lib.hid DU
 have HW:=Lib.hid hBl
 clear CZ DU hBl
 refine ⟨_,rfl,?_⟩
 refine hK.out _ _ CG (fun hHeld => ?_)
 clear hK K CG
 refine nm 31 ?_
 refine pu 16 6 fP ?_
 refine BN (by kernel_rfl) ?_
 have HX:=Lib.hid hHeld
 clear hHeld
 have hc0:w9.cell? ⟨w.heap.size,0,none⟩ = some (.int .i64 3):=(AA HX.out 0).trans rfl
 have hc1:w9.cell? ⟨w.heap.size,1,none⟩ = some (.int .u32 mine):=(AA HX.out 1).trans rfl
 have hc2:w9.cell? ⟨w.heap.size,2,none⟩ = some (.int .u32 AL):=(AA HX.out 2).trans rfl
 have hc3:w9.cell? ⟨w.heap.size,3,none⟩ = some (.int .u32 yours):=(AA HX.out 3).trans rfl
 have hc4:w9.cell? ⟨w.heap.size,4,none⟩ = some (.int .u32 seq):=(AA HX.out 4).trans rfl
 have hc5:w9.cell? ⟨w.heap.size,5,none⟩ = some (.int .u32 AX):=(AA HX.out 5).trans rfl
 have hc6:w9.cell? ⟨w.heap.size,6,none⟩ = some (.int .u32 stamp):=(AA HX.out 6).trans rfl
 have Ih:w9.cell? ⟨w.heap.size,7,none⟩ = some (.int .u32 echo):=(AA HX.out 7).trans rfl
 have hc8:w9.cell? ⟨w.heap.size,8,none⟩ = some (.complex .f64 zr zi):=(AA HX.out 8).trans rfl
 have Hu:w9.cell? ⟨w.heap.size,9,none⟩ = some (.slice A body.length c):=(AA HX.out 9).trans rfl
 have hr0:w9.cell? ⟨g,0,none⟩ = some (.bool false):=(AA HB.out 0).trans rfl
 have hr1:w9.cell? ⟨g,1,none⟩ = some (.bool true):=(AA HB.out 1).trans rfl
 have hr2:w9.cell? ⟨g,2,none⟩ = some (.bool false):=(AA HB.out 2).trans rfl
 have hr3:w9.cell? ⟨g,3,none⟩ = some (.bool false):=(AA HB.out 3).trans rfl
 go_wp2_with (first | ((go_at_call 64); (with_reducible refine (Bo w w9 v9 _ _ HW.out HR.out (by have:=HL.out; simp [CO,Di]; try omega)).mono ?_); (rintro e w10 ⟨v10,rfl,CZ,hBl,hkeep⟩); (have CG:=hkeep w.heap.size _ 27 (by decide) HX.out); (have DU:=hkeep g _ 107 (by decide) HB.out); (clear HR HB HW hkeep); (have HR:=Lib.hid CZ); (have HB:=Lib.hid DU); (have HW:=Lib.hid hBl); (clear CZ DU hBl); (clear HX); (have HX:=Lib.hid CG); (clear CG); (have hc0:w10.cell? ⟨w.heap.size,0,none⟩ = some (.int .i64 3):=(AA HX.out 0).trans rfl); (have hc1:w10.cell? ⟨w.heap.size,1,none⟩ = some (.int .u32 mine):=(AA HX.out 1).trans rfl); (have hc2:w10.cell? ⟨w.heap.size,2,none⟩ = some (.int .u32 AL):=(AA HX.out 2).trans rfl); (have hc3:w10.cell? ⟨w.heap.size,3,none⟩ = some (.int .u32 yours):=(AA HX.out 3).trans rfl); (have hc4:w10.cell? ⟨w.heap.size,4,none⟩ = some (.int .u32 seq):=(AA HX.out 4).trans rfl); (have hc5:w10.cell? ⟨w.heap.size,5,none⟩ = some (.int .u32 AX):=(AA HX.out 5).trans rfl); (have hc6:w10.cell? ⟨w.heap.size,6,none⟩ = some (.int .u32 stamp):=(AA HX.out 6).trans rfl); (have Ih:w10.cell? ⟨w.heap.size,7,none⟩ = some (.int .u32 echo):=(AA HX.out 7).trans rfl); (have hc8:w10.cell? ⟨w.heap.size,8,none⟩ = some (.complex .f64 zr zi):=(AA HX.out 8).trans rfl); (have Hu:w10.cell? ⟨w.heap.size,9,none⟩ = some (.slice A body.length c):=(AA HX.out 9).trans rfl); (have hr0:w10.cell? ⟨g,0,none⟩ = some (.bool false):=(AA HB.out 0).trans rfl); (have hr1:w10.cell? ⟨g,1,none⟩ = some (.bool true):=(AA HB.out 1).trans rfl); (have hr2:w10.cell? ⟨g,2,none⟩ = some (.bool false):=(AA HB.out 2).trans rfl); (have hr3:w10.cell? ⟨g,3,none⟩ = some (.bool false):=(AA HB.out 3).trans rfl)) | ((with_reducible refine AV (N:=78) rfl ?_); (refine Kd.EP (h1:=fun _ => rfl) (Value.int .u8) 0 (w0:=w) w.heap.size rfl (.tmp 75) (.tmp 77) 22 5 (.int .u8 0) 1 rfl Try.underlying22 info5 rfl (by decide) v10 _ (body) _ _ _ (fun _ => True) rfl rfl (fun _ _ => trivial) HR.out (Kd.BQ HC.out HW.out) HW.out HW.out.size (by have:=HL.out; simp [CO,Di]; try omega) ?_); (intro v11 EX CZ hBl _ _); (clear HR HW); (have HR:=Lib.hid CZ); (have HW:=Lib.hid hBl); (clear CZ hBl)))
 go_ret2
 unfold ER
 exact ⟨_,rfl,HR.out,HW.out⟩
end Go.Proofs.Ytnkkgofpifhoeaa.o8
end
