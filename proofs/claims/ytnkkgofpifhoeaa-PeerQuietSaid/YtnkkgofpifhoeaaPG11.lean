/- What the laws of a pair are proved with: links and pairs in memory, what their methods do, what a pair keeps to (part 11). -/
import Derived.Test.YtnkkgofpifhoeaaPG09
import Derived.Laws.StructEq
import Derived.Test.YtnkkgofpifhoeaaChecked
import Derived.Lib.Hide
set_option linter.unusedSimpArgs false
set_option linter.unusedVariables false
set_option maxRecDepth 100000
set_option maxHeartbeats 16000000
section
namespace Go.Proofs.Ytnkkgofpifhoeaa.o9
open Go.RowKit Go.Proofs.Ytnkkgofpifhoeaa.Base Go.Proofs.Ytnkkgofpifhoeaa.Pk Go.Proofs.YtnkkgofpifhoeaaW.PrintWords Go.Proofs.YtnkkgofpifhoeaaW.PrintLast Go.Proofs.Ytnkkgofpifhoeaa.Steps
theorem X3 (w:World):(Instr.index 108 table (.int .i64 4)).run Try.prog w = .ok (.agg #[.bool false,.bool true,.bool true,.bool false,.int .i64 41,.int .i64 41]) w:=by kernel_rfl
def ER (w:World) (L:List Int) (e:Ending) (w':World):Prop:=∃ v,e = .returned (.tuple #[v,.int .i64 0]) ∧ (Kd.int .u8).R 5 w' w.heap.size (fun _ => True) v L ∧ Below w.heap.size w w'
theorem Tq (mine AL yours seq AX stamp echo:Int) (zr zi:Nat) (A:Option Addr) (c:Nat) (body:List Int) (w:World) (hC:Kd.C (Kd.int .u8) w A body.length body) (hbl:body.length ≤ 20000)
  (hck:Ah 4 mine AL yours seq AX stamp echo zr zi body.length = 0) (hp:zr < 18446744073709551616) (hq:zi < 18446744073709551616) :
  Calls Try.prog 19 #[.agg #[.int .i64 4,.int .u32 mine,.int .u32 AL,.int .u32 yours,.int .u32 seq,.int .u32 AX,.int .u32 stamp,.int .u32 echo,.complex .f64 zr zi,.slice A body.length c]] w (ER w ((((((((([4] ++ CO (IntKind.u64.wrap mine)) ++ CO (IntKind.u64.wrap AL)) ++ CO (IntKind.u64.wrap yours)) ++ CO (IntKind.u64.wrap AX)) ++ CO (IntKind.u64.wrap stamp)) ++ CO (IntKind.u64.wrap echo)) ++ Di (zr:Int)) ++ Di (zi:Int)) ++ body)):=by
 have DZ:=Try.underlying27
 have FH:=Try.underlying107
 have hix:=X3
 have FK:=Lib.hid hck
 have HC:=Lib.hid hC
 have HL:=Lib.hid hbl
 have Bd:=Lib.hid hp
 have X4:=Lib.hid hq
 clear hck hC hbl hp hq
 go_enter Try.func19,Try.ntmps19
 go_wp2_with (go_at_call 20; refine (check_any _ _ _ _ _ _ _ _ _ _ _ _ _ _ Bd.out X4.out).mono ?_; rintro e w1 ⟨rfl,hb⟩; rw [FK.out]; have HX:=Lib.hid ((hb.block w.heap.size (by simp)).trans (heap_alloc_new w (.cells #[.int .i64 4,.int .u32 mine,.int .u32 AL,.int .u32 yours,.int .u32 seq,.int .u32 AX,.int .u32 stamp,.int .u32 echo,.complex .f64 zr zi,.slice A body.length c] 27))); have HW:=Lib.hid (((Below.refl w.heap.size w).alloc (Nat.le_refl _) (.cells #[.int .i64 4,.int .u32 mine,.int .u32 AL,.int .u32 yours,.int .u32 seq,.int .u32 AX,.int .u32 stamp,.int .u32 echo,.complex .f64 zr zi,.slice A body.length c] 27)).trans (hb.mono (by simp))); clear hb)
 have DJ:w1.drew.heap[w.heap.size]? = some (.cells #[.int .i64 4,.int .u32 mine,.int .u32 AL,.int .u32 yours,.int .u32 seq,.int .u32 AX,.int .u32 stamp,.int .u32 echo,.complex .f64 zr zi,.slice A body.length c] 27 (0,0)):=HX.out
 have Aq:Below w.heap.size w w1.drew:=Aj HW.out
 clear HX HW
 have HW:=Lib.hid Aq
 clear Aq
 refine Aw (n:=6) (S:=fun w' => w'.heap[w.heap.size]? = some (.cells #[.int .i64 4,.int .u32 mine,.int .u32 AL,.int .u32 yours,.int .u32 seq,.int .u32 AX,.int .u32 stamp,.int .u32 echo,.complex .f64 zr zi,.slice A body.length c] 27 (0,0))) (ds:=[]) gY (by kernel_rfl) rfl rfl (DJ) (fun hHeld => ?_)
 generalize w1.drew = w2 at HW hHeld ⊢
 refine pu 1 13 gZ ?_
 refine tk 2 14 gm hHeld ?_ (hf:=by intro w' s0; have hc0:w'.cell? ⟨w.heap.size,0,none⟩ = some (.int .i64 4):=(AA s0 0).trans rfl; clear s0; go_simp; with_reducible rfl)
 refine D7 (σ:=Nat) 1 ZB (fun g => [(12,table),(15,.agg #[.bool false,.bool true,.bool true,.bool false,.int .i64 41,.int .i64 41]),(5,.pointer (some ⟨g,0,none⟩))]) (fun g w' => w'.heap[g]? = some (.cells #[.bool false,.bool false,.bool false,.bool false,.int .i64 0,.int .i64 0] 107 (0,0)) ∧ Below w.heap.size w w' ∧ w.heap.size < g ∧ w'.heap[w.heap.size]? = some (.cells #[.int .i64 4,.int .u32 mine,.int .u32 AL,.int .u32 yours,.int .u32 seq,.int .u32 AX,.int .u32 stamp,.int .u32 echo,.complex .f64 zr zi,.slice A body.length c] 27 (0,0))) ?_ ?_
 rotate_left
 ·intro hcont
  exact Z2
 intro g w3 ⟨hbx,hbel,hgt,hHeld⟩
 clear HW
 refine Dy (a':=?_) ?_ ?_
 rotate_left
 ·show Ak _ _ = _
  simp only [Ak,Act.put,sA,sZ,sS]
  rfl
 have hd0:w3.cell? ⟨g,0,none⟩ = some (.bool false):=(AA hbx 0).trans rfl
 have hf0:=AB hbx 0
 have hd1:w3.cell? ⟨g,1,none⟩ = some (.bool false):=(AA hbx 1).trans rfl
 have hf1:=AB hbx 1
 have hd2:w3.cell? ⟨g,2,none⟩ = some (.bool false):=(AA hbx 2).trans rfl
 have hf2:=AB hbx 2
 have hd3:w3.cell? ⟨g,3,none⟩ = some (.bool false):=(AA hbx 3).trans rfl
 have hf3:=AB hbx 3
 have hd4:w3.cell? ⟨g,4,none⟩ = some (.int .i64 0):=(AA hbx 4).trans rfl
 have hf4:=AB hbx 4
 have hd5:w3.cell? ⟨g,5,none⟩ = some (.int .i64 0):=(AA hbx 5).trans rfl
 have hf5:=AB hbx 5
 refine on 5 none gu fun K hK => ?_
 refine BO (fun wz => wz.heap[g]? = some (.cells #[.bool false,.bool true,.bool true,.bool false,.int .i64 41,.int .i64 41] 107 (0,0)) ∧ At g w3 wz) (by rfl) rfl ⟨_,by first | (go_simp; done) | (go_simp; rfl),?_,?_⟩ (fun w4 hF => ?_)
 ·skip
  exact iK
 ·repeat (first | (with_reducible exact At.refl _ _) | refine At.set ?_ _ _)
 obtain ⟨hB4,hat⟩:=hF
 have Om:=(hat.block w.heap.size (by omega)).trans hHeld
 have HW:=Lib.hid (hat.below hbel (by omega))
 have HB:=Lib.hid hB4
 clear hbx hbel hat hHeld hB4 hd0 hf0 hd1 hf1 hd2 hf2 hd3 hf3 hd4 hf4 hd5 hf5
 refine hK.out _ _ Om (fun hHeld => ?_)
 clear hK K Om
 refine BN (by kernel_rfl) ?_
 have HX:=Lib.hid hHeld
 clear hHeld
 go_wp2_with fail
 have DJ:w4.drew.heap[w.heap.size]? = some (.cells #[.int .i64 4,.int .u32 mine,.int .u32 AL,.int .u32 yours,.int .u32 seq,.int .u32 AX,.int .u32 stamp,.int .u32 echo,.complex .f64 zr zi,.slice A body.length c] 27 (0,0)):=HX.out
 have Bj:w4.drew.heap[g]? = some (.cells #[.bool false,.bool true,.bool true,.bool false,.int .i64 41,.int .i64 41] 107 (0,0)):=HB.out
 have Aq:Below w.heap.size w w4.drew:=Aj HW.out
 clear HX HB HW
 have HB:=Lib.hid Bj
 have HW:=Lib.hid Aq
 clear Bj Aq
 refine Aw (n:=17) (S:=fun w' => w'.heap[w.heap.size]? = some (.cells #[.int .i64 4,.int .u32 mine,.int .u32 AL,.int .u32 yours,.int .u32 seq,.int .u32 AX,.int .u32 stamp,.int .u32 echo,.complex .f64 zr zi,.slice A body.length c] 27 (0,0))) (ds:=[]) di (by kernel_rfl) rfl rfl (DJ) (fun hHeld => ?_)
 generalize w4.drew = w5 at HB HW hHeld ⊢
 refine pu 0 16 dm ?_
 refine tk 1 17 dw hHeld ?_ (hf:=by intro w' s0; have hc0:w'.cell? ⟨w.heap.size,0,none⟩ = some (.int .i64 4):=(AA s0 0).trans rfl; clear s0; go_simp; with_reducible rfl)
 refine pu 2 18 eF ?_
 refine pu 4 20 eG ?_
 refine tk 5 21 eH hHeld ?_ (hf:=by intro w' s0; have hc1:w'.cell? ⟨w.heap.size,1,none⟩ = some (.int .u32 mine):=(AA s0 1).trans rfl; clear s0; go_simp; with_reducible rfl)
 refine pu 6 22 eP ?_
 refine pu 8 24 eX ?_
 refine tk 9 25 eu hHeld ?_ (hf:=by intro w' s0; have hc2:w'.cell? ⟨w.heap.size,2,none⟩ = some (.int .u32 AL):=(AA s0 2).trans rfl; clear s0; go_simp; with_reducible rfl)
 refine pu 10 26 fB ?_
 refine pu 12 28 fD ?_
 refine tk 13 29 fF hHeld ?_ (hf:=by intro w' s0; have hc3:w'.cell? ⟨w.heap.size,3,none⟩ = some (.int .u32 yours):=(AA s0 3).trans rfl; clear s0; go_simp; with_reducible rfl)
 refine pu 14 30 fH ?_
 refine on 3 (some 19) fK fun K hK => ?_
 refine Gt (v:=.slice (some ⟨w5.heap.size,0,none⟩) 1 1) (by rfl) rfl (w1:=w5.alloc (.cells #[.int .u8 4] 5)) ?_ ?_
 ·first | (go_simp; done) | (go_simp; rfl)
 have EJ:=(Below.refl w5.heap.size w5).alloc (Nat.le_refl _) (.cells #[.int .u8 4] 5)
 have CZ:=QI w5 w.heap.size [4] HW.out.size (by decide)
 have Lt:(Kd.int .u8).R 5 (w5.alloc (.cells #[.int .u8 4] 5)) w.heap.size (fun _ => True) (.slice (some ⟨w5.heap.size,0,none⟩) 1 1) [4]:=CZ
 have CG:=(EJ.block w.heap.size (AU hHeld)).trans hHeld
 have DU:=(EJ.block g (AU HB.out)).trans HB.out
 have Aq:=HW.out.trans (EJ.mono HW.out.size)
 generalize hv0:Value.slice (some ⟨w5.heap.size,0,none⟩) 1 1 = v0 at Lt ⊢
 clear hv0 EJ CZ
 generalize w5.alloc (.cells #[.int .u8 4] 5) = w6 at Lt CG DU Aq ⊢
 clear HW HB
 have HR:=Lib.hid Lt
 have HW:=Lib.hid Aq
 have HB:=Lib.hid DU
 clear Lt Aq DU
 refine hK.out _ _ CG (fun hHeld => ?_)
 clear hK K CG
 refine nm 19 ?_
 refine on 7 (some 23) fO fun K hK => ?_
 refine BK Try.func64 (by kernel_rfl) rfl #[v0,.int .u64 (IntKind.u64.wrap mine),.int .i64 4] (by rfl) rfl rfl (by (try simp only [List.map_toArray,List.map_cons,List.map_nil]); first | done | rfl) ?_
 refine (Bo w _ _ _ _ HW.out HR.out (by have:=HL.out; simp [CO,Di]; try omega)).mono ?_
 rintro e w7 ⟨v7,rfl,CZ,hBl,hkeep⟩
 have CG:=hkeep w.heap.size _ 27 (by decide) hHeld
 have DU:=hkeep g _ 107 (by decide) HB.out
 clear HR HB HW hkeep
 have HR:=Lib.hid CZ
 have HB:=Lib.hid DU
 have HW:=Lib.hid hBl
 clear CZ DU hBl
 refine ⟨_,rfl,?_⟩
 refine hK.out _ _ CG (fun hHeld => ?_)
 clear hK K CG
 refine nm 23 ?_
 refine on 11 (some 27) M10 fun K hK => ?_
 refine BK Try.func64 (by kernel_rfl) rfl #[v7,.int .u64 (IntKind.u64.wrap AL),.int .i64 4] (by rfl) rfl rfl (by (try simp only [List.map_toArray,List.map_cons,List.map_nil]); first | done | rfl) ?_
 refine (Bo w _ _ _ _ HW.out HR.out (by have:=HL.out; simp [CO,Di]; try omega)).mono ?_
 rintro e w8 ⟨v8,rfl,CZ,hBl,hkeep⟩
 have CG:=hkeep w.heap.size _ 27 (by decide) hHeld
 have DU:=hkeep g _ 107 (by decide) HB.out
 clear HR HB HW hkeep
 have HR:=Lib.hid CZ
 have HB:=Lib.hid DU
 have HW:=Lib.hid hBl
 clear CZ DU hBl
 refine ⟨_,rfl,?_⟩
 refine hK.out _ _ CG (fun hHeld => ?_)
 clear hK K CG
 refine nm 27 ?_
 refine on 15 (some 31) M13 fun K hK => ?_
 refine BK Try.func64 (by kernel_rfl) rfl #[v8,.int .u64 (IntKind.u64.wrap yours),.int .i64 4] (by rfl) rfl rfl (by (try simp only [List.map_toArray,List.map_cons,List.map_nil]); first | done | rfl) ?_
 refine (Bo w _ _ _ _ HW.out HR.out (by have:=HL.out; simp [CO,Di]; try omega)).mono ?_
 rintro e w9 ⟨v9,rfl,CZ,hBl,hkeep⟩
 have CG:=hkeep w.heap.size _ 27 (by decide) hHeld
 have DU:=hkeep g _ 107 (by decide) HB.out
 clear HR HB HW hkeep
 have HR:=Lib.hid CZ
 have HB:=Lib.hid DU
 have HW:=Lib.hid hBl
 clear CZ DU hBl
 refine ⟨_,rfl,?_⟩
 refine hK.out _ _ CG (fun hHeld => ?_)
 clear hK K CG
 refine nm 31 ?_
 refine pu 16 6 fP ?_
 refine BN (by kernel_rfl) ?_
 have HX:=Lib.hid hHeld
 clear hHeld
 have hc0:w9.cell? ⟨w.heap.size,0,none⟩ = some (.int .i64 4):=(AA HX.out 0).trans rfl
 have hc1:w9.cell? ⟨w.heap.size,1,none⟩ = some (.int .u32 mine):=(AA HX.out 1).trans rfl
 have hc2:w9.cell? ⟨w.heap.size,2,none⟩ = some (.int .u32 AL):=(AA HX.out 2).trans rfl
 have hc3:w9.cell? ⟨w.heap.size,3,none⟩ = some (.int .u32 yours):=(AA HX.out 3).trans rfl
 have hc4:w9.cell? ⟨w.heap.size,4,none⟩ = some (.int .u32 seq):=(AA HX.out 4).trans rfl
 have hc5:w9.cell? ⟨w.heap.size,5,none⟩ = some (.int .u32 AX):=(AA HX.out 5).trans rfl
 have hc6:w9.cell? ⟨w.heap.size,6,none⟩ = some (.int .u32 stamp):=(AA HX.out 6).trans rfl
 have Ih:w9.cell? ⟨w.heap.size,7,none⟩ = some (.int .u32 echo):=(AA HX.out 7).trans rfl
 have hc8:w9.cell? ⟨w.heap.size,8,none⟩ = some (.complex .f64 zr zi):=(AA HX.out 8).trans rfl
 have Hu:w9.cell? ⟨w.heap.size,9,none⟩ = some (.slice A body.length c):=(AA HX.out 9).trans rfl
 have hr0:w9.cell? ⟨g,0,none⟩ = some (.bool false):=(AA HB.out 0).trans rfl
 have hr1:w9.cell? ⟨g,1,none⟩ = some (.bool true):=(AA HB.out 1).trans rfl
 have hr2:w9.cell? ⟨g,2,none⟩ = some (.bool true):=(AA HB.out 2).trans rfl
 have hr3:w9.cell? ⟨g,3,none⟩ = some (.bool false):=(AA HB.out 3).trans rfl
 go_wp2_with (first | ((go_at_call 64); (with_reducible refine (Bo w w9 v9 _ _ HW.out HR.out (by have:=HL.out; simp [CO,Di]; try omega)).mono ?_); (rintro e w10 ⟨v10,rfl,CZ,hBl,hkeep⟩); (have CG:=hkeep w.heap.size _ 27 (by decide) HX.out); (have DU:=hkeep g _ 107 (by decide) HB.out); (clear HR HB HW hkeep); (have HR:=Lib.hid CZ); (have HB:=Lib.hid DU); (have HW:=Lib.hid hBl); (clear CZ DU hBl); (clear HX); (have HX:=Lib.hid CG); (clear CG); (have hc0:w10.cell? ⟨w.heap.size,0,none⟩ = some (.int .i64 4):=(AA HX.out 0).trans rfl); (have hc1:w10.cell? ⟨w.heap.size,1,none⟩ = some (.int .u32 mine):=(AA HX.out 1).trans rfl); (have hc2:w10.cell? ⟨w.heap.size,2,none⟩ = some (.int .u32 AL):=(AA HX.out 2).trans rfl); (have hc3:w10.cell? ⟨w.heap.size,3,none⟩ = some (.int .u32 yours):=(AA HX.out 3).trans rfl); (have hc4:w10.cell? ⟨w.heap.size,4,none⟩ = some (.int .u32 seq):=(AA HX.out 4).trans rfl); (have hc5:w10.cell? ⟨w.heap.size,5,none⟩ = some (.int .u32 AX):=(AA HX.out 5).trans rfl); (have hc6:w10.cell? ⟨w.heap.size,6,none⟩ = some (.int .u32 stamp):=(AA HX.out 6).trans rfl); (have Ih:w10.cell? ⟨w.heap.size,7,none⟩ = some (.int .u32 echo):=(AA HX.out 7).trans rfl); (have hc8:w10.cell? ⟨w.heap.size,8,none⟩ = some (.complex .f64 zr zi):=(AA HX.out 8).trans rfl); (have Hu:w10.cell? ⟨w.heap.size,9,none⟩ = some (.slice A body.length c):=(AA HX.out 9).trans rfl); (have hr0:w10.cell? ⟨g,0,none⟩ = some (.bool false):=(AA HB.out 0).trans rfl); (have hr1:w10.cell? ⟨g,1,none⟩ = some (.bool true):=(AA HB.out 1).trans rfl); (have hr2:w10.cell? ⟨g,2,none⟩ = some (.bool true):=(AA HB.out 2).trans rfl); (have hr3:w10.cell? ⟨g,3,none⟩ = some (.bool false):=(AA HB.out 3).trans rfl)))
 have DJ:w10.drew.heap[w.heap.size]? = some (.cells #[.int .i64 4,.int .u32 mine,.int .u32 AL,.int .u32 yours,.int .u32 seq,.int .u32 AX,.int .u32 stamp,.int .u32 echo,.complex .f64 zr zi,.slice A body.length c] 27 (0,0)):=HX.out
 have Bj:w10.drew.heap[g]? = some (.cells #[.bool false,.bool true,.bool true,.bool false,.int .i64 41,.int .i64 41] 107 (0,0)):=HB.out
 have Aq:Below w.heap.size w w10.drew:=Aj HW.out
 have CE:=Kd.Eb HR.out (Aj (Below.refl _ _))
 clear HR
 clear HX HB HW
 have HB:=Lib.hid Bj
 have HW:=Lib.hid Aq
 clear Bj Aq
 have HR:=Lib.hid CE
 clear CE
 refine Aw (n:=10) (S:=fun w' => w'.heap[w.heap.size]? = some (.cells #[.int .i64 4,.int .u32 mine,.int .u32 AL,.int .u32 yours,.int .u32 seq,.int .u32 AX,.int .u32 stamp,.int .u32 echo,.complex .f64 zr zi,.slice A body.length c] 27 (0,0))) (ds:=[]) ni (by kernel_rfl) rfl rfl (DJ) (fun hHeld => ?_)
 generalize w10.drew = EX at HB HW HR hHeld ⊢
 refine pu 0 55 ny ?_
 refine pu 1 56 oC ?_
 refine tk 2 57 oD hHeld ?_ (hf:=by intro w' s0; have hc6:w'.cell? ⟨w.heap.size,6,none⟩ = some (.int .u32 stamp):=(AA s0 6).trans rfl; clear s0; go_simp; with_reducible rfl)
 refine pu 3 58 oG ?_
 refine pu 5 60 xU ?_
 refine tk 6 61 xX hHeld ?_ (hf:=by intro w' s0; have Ih:w'.cell? ⟨w.heap.size,7,none⟩ = some (.int .u32 echo):=(AA s0 7).trans rfl; clear s0; go_simp; with_reducible rfl)
 refine pu 7 62 xZ ?_
 refine on 4 (some 59) M3a fun K hK => ?_
 refine BK Try.func64 (by kernel_rfl) rfl #[v10,.int .u64 (IntKind.u64.wrap stamp),.int .i64 4] (by rfl) rfl rfl (by (try simp only [List.map_toArray,List.map_cons,List.map_nil]); first | done | rfl) ?_
 refine (Bo w _ _ _ _ HW.out HR.out (by have:=HL.out; simp [CO,Di]; try omega)).mono ?_
 rintro e w12 ⟨v12,rfl,CZ,hBl,hkeep⟩
 have CG:=hkeep w.heap.size _ 27 (by decide) hHeld
 have DU:=hkeep g _ 107 (by decide) HB.out
 clear HR HB HW hkeep
 have HR:=Lib.hid CZ
 have HB:=Lib.hid DU
 have HW:=Lib.hid hBl
 clear CZ DU hBl
 refine ⟨_,rfl,?_⟩
 refine hK.out _ _ CG (fun hHeld => ?_)
 clear hK K CG
 refine nm 59 ?_
 refine on 8 (some 63) oH fun K hK => ?_
 refine BK Try.func64 (by kernel_rfl) rfl #[v12,.int .u64 (IntKind.u64.wrap echo),.int .i64 4] (by rfl) rfl rfl (by (try simp only [List.map_toArray,List.map_cons,List.map_nil]); first | done | rfl) ?_
 refine (Bo w _ _ _ _ HW.out HR.out (by have:=HL.out; simp [CO,Di]; try omega)).mono ?_
 rintro e FI ⟨v13,rfl,CZ,hBl,hkeep⟩
 have CG:=hkeep w.heap.size _ 27 (by decide) hHeld
 have DU:=hkeep g _ 107 (by decide) HB.out
 clear HR HB HW hkeep
 have HR:=Lib.hid CZ
 have HB:=Lib.hid DU
 have HW:=Lib.hid hBl
 clear CZ DU hBl
 refine ⟨_,rfl,?_⟩
 refine hK.out _ _ CG (fun hHeld => ?_)
 clear hK K CG
 refine nm 63 ?_
 refine pu 9 6 oI ?_
 refine BN (by kernel_rfl) ?_
 have HX:=Lib.hid hHeld
 clear hHeld
 go_wp2_with fail
 have DJ:FI.drew.heap[w.heap.size]? = some (.cells #[.int .i64 4,.int .u32 mine,.int .u32 AL,.int .u32 yours,.int .u32 seq,.int .u32 AX,.int .u32 stamp,.int .u32 echo,.complex .f64 zr zi,.slice A body.length c] 27 (0,0)):=HX.out
 have Bj:FI.drew.heap[g]? = some (.cells #[.bool false,.bool true,.bool true,.bool false,.int .i64 41,.int .i64 41] 107 (0,0)):=HB.out
 have Aq:Below w.heap.size w FI.drew:=Aj HW.out
 have CE:=Kd.Eb HR.out (Aj (Below.refl _ _))
 clear HR
 clear HX HB HW
 have HB:=Lib.hid Bj
 have HW:=Lib.hid Aq
 clear Bj Aq
 have HR:=Lib.hid CE
 clear CE
 refine Aw (n:=12) (S:=fun w' => w'.heap[w.heap.size]? = some (.cells #[.int .i64 4,.int .u32 mine,.int .u32 AL,.int .u32 yours,.int .u32 seq,.int .u32 AX,.int .u32 stamp,.int .u32 echo,.complex .f64 zr zi,.slice A body.length c] 27 (0,0))) (ds:=[]) fU (by kernel_rfl) rfl rfl (DJ) (fun hHeld => ?_)
 generalize FI.drew = I4 at HB HW HR hHeld ⊢
 refine pu 0 64 fV ?_
 refine pu 1 65 fZ ?_
 refine tk 2 66 gG hHeld ?_ (hf:=by intro w' s0; have hc8:w'.cell? ⟨w.heap.size,8,none⟩ = some (.complex .f64 zr zi):=(AA s0 8).trans rfl; clear s0; go_simp; with_reducible rfl)
 refine pu 3 67 gI ?_
 refine pu 6 70 wY ?_
 refine tk 7 71 wu hHeld ?_ (hf:=by intro w' s0; have hc8:w'.cell? ⟨w.heap.size,8,none⟩ = some (.complex .f64 zr zi):=(AA s0 8).trans rfl; clear s0; go_simp; with_reducible rfl)
 refine pu 8 72 xB ?_
 refine on 4 (some 68) xE fun K hK => ?_
 refine Gt (v:=.int .u64 (zr:Int)) (by rfl) rfl (w1:=I4) ?_ ?_
 ·first | (go_simp; done) | (go_simp; rfl)
 refine hK.out _ _ hHeld (fun hHeld => ?_)
 clear hK K
 refine nm 68 ?_
 refine on 5 (some 69) gJ fun K hK => ?_
 refine BK Try.func64 (by kernel_rfl) rfl #[v13,.int .u64 ((zr:Int)),.int .i64 8] (by rfl) rfl rfl (by (try simp only [List.map_toArray,List.map_cons,List.map_nil]); first | done | rfl) ?_
 refine (NI w _ _ _ _ HW.out HR.out (by have:=HL.out; simp [CO,Di]; try omega)).mono ?_
 rintro e IY ⟨v15,rfl,CZ,hBl,hkeep⟩
 have CG:=hkeep w.heap.size _ 27 (by decide) hHeld
 have DU:=hkeep g _ 107 (by decide) HB.out
 clear HR HB HW hkeep
 have HR:=Lib.hid CZ
 have HB:=Lib.hid DU
 have HW:=Lib.hid hBl
 clear CZ DU hBl
 refine ⟨_,rfl,?_⟩
 refine hK.out _ _ CG (fun hHeld => ?_)
 clear hK K CG
 refine nm 69 ?_
 refine on 9 (some 73) gK fun K hK => ?_
 refine Gt (v:=.int .u64 (zi:Int)) (by rfl) rfl (w1:=IY) ?_ ?_
 ·first | (go_simp; done) | (go_simp; rfl)
 refine hK.out _ _ hHeld (fun hHeld => ?_)
 clear hK K
 refine nm 73 ?_
 refine on 10 (some 74) gQ fun K hK => ?_
 refine BK Try.func64 (by kernel_rfl) rfl #[v15,.int .u64 ((zi:Int)),.int .i64 8] (by rfl) rfl rfl (by (try simp only [List.map_toArray,List.map_cons,List.map_nil]); first | done | rfl) ?_
 refine (NI w _ _ _ _ HW.out HR.out (by have:=HL.out; simp [CO,Di]; try omega)).mono ?_
 rintro e w16 ⟨v16,rfl,CZ,hBl,hkeep⟩
 have CG:=hkeep w.heap.size _ 27 (by decide) hHeld
 have DU:=hkeep g _ 107 (by decide) HB.out
 clear HR HB HW hkeep
 have HR:=Lib.hid CZ
 have HB:=Lib.hid DU
 have HW:=Lib.hid hBl
 clear CZ DU hBl
 refine ⟨_,rfl,?_⟩
 refine hK.out _ _ CG (fun hHeld => ?_)
 clear hK K CG
 refine nm 74 ?_
 refine pu 11 6 gU ?_
 refine BN (by kernel_rfl) ?_
 have HX:=Lib.hid hHeld
 clear hHeld
 have hc0:w16.cell? ⟨w.heap.size,0,none⟩ = some (.int .i64 4):=(AA HX.out 0).trans rfl
 have hc1:w16.cell? ⟨w.heap.size,1,none⟩ = some (.int .u32 mine):=(AA HX.out 1).trans rfl
 have hc2:w16.cell? ⟨w.heap.size,2,none⟩ = some (.int .u32 AL):=(AA HX.out 2).trans rfl
 have hc3:w16.cell? ⟨w.heap.size,3,none⟩ = some (.int .u32 yours):=(AA HX.out 3).trans rfl
 have hc4:w16.cell? ⟨w.heap.size,4,none⟩ = some (.int .u32 seq):=(AA HX.out 4).trans rfl
 have hc5:w16.cell? ⟨w.heap.size,5,none⟩ = some (.int .u32 AX):=(AA HX.out 5).trans rfl
 have hc6:w16.cell? ⟨w.heap.size,6,none⟩ = some (.int .u32 stamp):=(AA HX.out 6).trans rfl
 have Ih:w16.cell? ⟨w.heap.size,7,none⟩ = some (.int .u32 echo):=(AA HX.out 7).trans rfl
 have hc8:w16.cell? ⟨w.heap.size,8,none⟩ = some (.complex .f64 zr zi):=(AA HX.out 8).trans rfl
 have Hu:w16.cell? ⟨w.heap.size,9,none⟩ = some (.slice A body.length c):=(AA HX.out 9).trans rfl
 have hr0:w16.cell? ⟨g,0,none⟩ = some (.bool false):=(AA HB.out 0).trans rfl
 have hr1:w16.cell? ⟨g,1,none⟩ = some (.bool true):=(AA HB.out 1).trans rfl
 have hr2:w16.cell? ⟨g,2,none⟩ = some (.bool true):=(AA HB.out 2).trans rfl
 have hr3:w16.cell? ⟨g,3,none⟩ = some (.bool false):=(AA HB.out 3).trans rfl
 go_wp2_with (first | ((with_reducible refine AV (N:=78) rfl ?_); (refine Kd.EP (h1:=fun _ => rfl) (Value.int .u8) 0 (w0:=w) w.heap.size rfl (.tmp 75) (.tmp 77) 22 5 (.int .u8 0) 1 rfl Try.underlying22 info5 rfl (by decide) v16 _ (body) _ _ _ (fun _ => True) rfl rfl (fun _ _ => trivial) HR.out (Kd.BQ HC.out HW.out) HW.out HW.out.size (by have:=HL.out; simp [CO,Di]; try omega) ?_); (intro v17 X6 CZ hBl _ _); (clear HR HW); (have HR:=Lib.hid CZ); (have HW:=Lib.hid hBl); (clear CZ hBl)))
 go_ret2
 unfold ER
 exact ⟨_,rfl,HR.out,HW.out⟩
end Go.Proofs.Ytnkkgofpifhoeaa.o9
end
section
namespace Go.Proofs.Ytnkkgofpifhoeaa.Lk
open Go.RowKit Go.Proofs.Ytnkkgofpifhoeaa.Steps Go.Proofs.YtnkkgofpifhoeaaW.PrintWords
structure BJ where
 kind:Int
 mine:Int
 AL:Int
 yours:Int
 seq:Int
 AX:Int
 stamp:Int
 echo:Int
 zr:Nat
 zi:Nat
 body:List Int
def cx:Kd (Nat × Nat):=Kd.scalar (fun z => .complex .f64 z.1 z.2) (fun _ => rfl)
def Oo:Kd Int:=Kd.int .u32
def bytes:Kd (List Int):=Kd.slice 5 (Kd.int .u8)
def pkt:Kd BJ:=Kd.x9 (Kd.pair (Kd.int .i64) (Kd.pair Oo (Kd.pair Oo (Kd.pair Oo (Kd.pair Oo (Kd.pair Oo (Kd.pair Oo (Kd.pair Oo (Kd.pair cx bytes)))))))))
 (fun p => (p.kind,p.mine,p.AL,p.yours,p.seq,p.AX,p.stamp,p.echo,(p.zr,p.zi),p.body))
def cells (p:BJ) (b:Value):List Value:=[.int .i64 p.kind,.int .u32 p.mine,.int .u32 p.AL,.int .u32 p.yours,.int .u32 p.seq,.int .u32 p.AX,.int .u32 p.stamp,.int .u32 p.echo,.complex .f64 p.zr p.zi,b]
theorem X7:pkt.sz = 10:=rfl
theorem Zl:pkt.E = [5]:=rfl
theorem F5 {w:World} {base:Nat} {ok:Nat → Prop} {p:BJ} {cs:List Value}:pkt.M w base ok p cs ↔ ∃ b,cs = cells p b ∧ (Kd.int .u8).R 5 w base ok b p.body:=by
 constructor
 ·rintro ⟨_,_,rfl,rfl,_,_,rfl,rfl,_,_,rfl,rfl,_,_,rfl,rfl,_,_,rfl,rfl,_,_,rfl,rfl,_,_,rfl,rfl,_,_,rfl,rfl,_,_,rfl,rfl,b,rfl,h⟩
  exact ⟨b,rfl,h⟩
 ·rintro ⟨b,rfl,h⟩
  exact ⟨_,_,rfl,rfl,_,_,rfl,rfl,_,_,rfl,rfl,_,_,rfl,rfl,_,_,rfl,rfl,_,_,rfl,rfl,_,_,rfl,rfl,_,_,rfl,rfl,_,_,rfl,rfl,b,rfl,h⟩
structure Lk where
 own:Int
 phase:Int
 token:Int
 AL:Int
 yours:Int
 known:Bool
 queue:List (List Int)
 sent:Int
 base:Int
 expected:Int
 idle:Int
 out:List BJ
structure Lk.Ok (L:Lk):Prop where
 own:0 ≤ L.own ∧ L.own < 4294967296
 phase:0 ≤ L.phase ∧ L.phase ≤ 2
 token:0 ≤ L.token ∧ L.token < 4294967296
 AL:0 ≤ L.AL ∧ L.AL < 4294967296
 yours:0 ≤ L.yours ∧ L.yours < 4294967296
 queue:L.queue.length ≤ 64
 rows:∀ r ∈ L.queue,r.length ≤ 1000
 sent:0 ≤ L.sent ∧ L.sent ≤ L.queue.length ∧ L.sent ≤ 8
 base:0 ≤ L.base ∧ L.base < 4294967296
 expected:0 ≤ L.expected ∧ L.expected < 4294967296
 idle:0 ≤ L.idle ∧ L.idle ≤ 1000
 out:L.out.length ≤ 1024
def row (L:Lk) (q o:Value):Array Value:=#[.int .u32 L.own,.int .i64 L.phase,.int .u32 L.token,.int .u32 L.AL,.int .u32 L.yours,.bool L.known,q,.int .i64 L.sent,.int .u32 L.base,.int .u32 L.expected,.int .i64 L.idle,o]
structure At (w:World) (B:Nat) (Af Ac:Nat → Prop) (g:Nat) (L:Lk) (q o:Value):Prop where
 blk:w.heap[g]? = some (.cells (row L q o) 131 (0,0))
 queue:bytes.Q 22 w B Af q L.queue
 out:pkt.R 27 w B Ac o L.out
 low:B ≤ g
 apart:∀ k,Af k → ¬ Ac k
 old:∀ k,Af k ∨ Ac k → k < w.heap.size ∧ k ≠ g
def holds (Af Ac:Nat → Prop) (g:Nat):Nat → Prop:=fun k => Af k ∨ Ac k ∨ k = g
theorem At.kept {w w1:World} {B g:Nat} {Af Ac S:Nat → Prop} {L:Lk} {q o:Value} (h:At w B Af Ac g L q o) (hk:Kept w w1 S) (hd:∀ k,holds Af Ac g k → ¬ S k):At w1 B Af Ac g L q o :=
 ⟨Ai h.blk hk (hd g (.inr (.inr rfl))),Kd.Le h.queue hk (fun k ho => hd k (.inl ho)),Kd.BI h.out hk (fun k ho => hd k (.inr (.inl ho))),h.low,h.apart,fun k hk' => ⟨Nat.lt_of_lt_of_le (h.old k hk').1 hk.1,(h.old k hk').2⟩⟩
theorem At.below {w w1:World} {B g:Nat} {Af Ac:Nat → Prop} {L:Lk} {q o:Value} (h:At w B Af Ac g L q o) (hb:Below w.heap.size w w1):At w1 B Af Ac g L q o:=h.kept (Kept.of_below hb (fun _ => False)) (fun _ _ hf => hf)
theorem At.put {w:World} {B g:Nat} {Af Ac Gv Js:Nat → Prop} {L L':Lk} {q o q' o':Value} (h:At w B Af Ac g L q o) (i:Nat) (u:Value) (e:(row L q o).setIfInBounds i u = row L' q' o')
  (hq:bytes.Q 22 w B Gv q' L'.queue) (hout:pkt.R 27 w B Js o' L'.out) (hap:∀ k,Gv k → ¬ Js k) (hold:∀ k,Gv k ∨ Js k → k < w.heap.size ∧ k ≠ g):At (w.setCell ⟨g,i,none⟩ u) B Gv Js g L' q' o':=by
 have hk:Kept w (w.setCell ⟨g,i,none⟩ u) (fun k => k = g):=Kept.setCell (S:=fun k => k = g) (Kept.refl w _) (p:=⟨g,i,none⟩) (.inl rfl) u
 exact ⟨AQ h.blk i u e,Kd.Le hq hk (fun k ho => (hold k (.inl ho)).2),Kd.BI hout hk (fun k ho => (hold k (.inr ho)).2),h.low,hap,fun k hk' => ⟨Nat.lt_of_lt_of_le (hold k hk').1 hk.1,(hold k hk').2⟩⟩
theorem At.F6 {w:World} {B g:Nat} {Af Ac:Nat → Prop} {L L':Lk} {q o:Value} (h:At w B Af Ac g L q o) (i:Nat) (u:Value) (e:(row L q o).setIfInBounds i u = row L' q o) (hq:L'.queue = L.queue) (ho:L'.out = L.out):At (w.setCell ⟨g,i,none⟩ u) B Af Ac g L' q o :=
 h.put i u e (hq ▸ h.queue) (ho ▸ h.out) h.apart h.old
theorem At.noq {w:World} {B g:Nat} {Af Ac:Nat → Prop} {L L':Lk} {q o:Value} (h:At w B Af Ac g L q o) (e:(row L q o).setIfInBounds 6 (.slice none 0 0) = row L' (.slice none 0 0) o) (hq:L'.queue = []) (ho:L'.out = L.out):At (w.setCell ⟨g,6,none⟩ (.slice none 0 0)) B (fun _ => False) Ac g L' (.slice none 0 0) o :=
 h.put 6 _ e (hq ▸ Kd.XI _ _ _ _ _) (ho ▸ h.out) (fun _ hf => hf.elim) (fun k hk => h.old k (.inr (hk.elim (fun f => False.elim f) (fun x => x))))
end Go.Proofs.Ytnkkgofpifhoeaa.Lk
end
section
namespace Go.Proofs.Ytnkkgofpifhoeaa.Lk
open Go.RowKit Go.Proofs.Ytnkkgofpifhoeaa.Base Go.Proofs.Ytnkkgofpifhoeaa.Steps Go.Proofs.YtnkkgofpifhoeaaW.PrintWords Go.Proofs.YtnkkgofpifhoeaaW.PrintLast
theorem Tt {w:World} {B g:Nat} {Af Ac:Nat → Prop} {L:Lk} {q o:Value} (h:At w B Af Ac g L q o):Calls Try.prog 29 #[.pointer (some ⟨g,0,none⟩)] w fun e w' => e = .returned (.int .i64 L.phase) ∧ w = w':=by
 have hc1:w.cell? ⟨g,1,none⟩ = some (.int .i64 L.phase):=(AA h.blk 1).trans rfl
 clear h
 go_enter Try.func29,Try.ntmps29
 go_wp2
 all_goals (go_ret; exact ⟨rfl,rfl⟩)
theorem Tu {w:World} {B g:Nat} {Af Ac:Nat → Prop} {L:Lk} {q o:Value} (h:At w B Af Ac g L q o):Calls Try.prog 31 #[.pointer (some ⟨g,0,none⟩)] w fun e w' => e = .returned (.int .i64 L.queue.length) ∧ w = w':=by
 obtain ⟨A,c,hq,hl⟩:=Kd.FT h.queue
 have hc6:w.cell? ⟨g,6,none⟩ = some (.slice A L.queue.length c):=(AA h.blk 6).trans (by rw [hq]; rfl)
 clear h
 go_enter Try.func31,Try.ntmps31
 go_wp2
 all_goals (go_ret; exact ⟨rfl,rfl⟩)
def newL (own:Int):Lk:=⟨own,0,0,0,0,false,[],0,0,0,0,[]⟩
theorem QL (own:Int) (ho:0 < own ∧ own < 4294967296):(newL own).Ok:=by constructor <;> simp [newL] <;> omega
theorem Oq (own:Int) (ho:0 < own ∧ own < 4294967296) (w:World) (B:Nat) (hB:B ≤ w.heap.size):Calls Try.prog 26 #[.int .u32 own] w fun e w' => e = .returned (.tuple #[.pointer (some ⟨w.heap.size,0,none⟩),.int .i64 0]) ∧ At w' B (fun _ => False) (fun _ => False) w.heap.size (newL own) (.slice none 0 0) (.slice none 0 0) ∧ Below w.heap.size w w':=by
 have ho1:¬ own = 0:=by omega
 go_enter Try.func26,Try.ntmps26
 go_wp2
 all_goals go_ret2
 exact ⟨rfl,⟨heap_alloc_new w _,Kd.XI _ _ _ _ _,Kd.Cc _ _ _ _ _,hB,fun _ h => h.elim,fun k hk => (hk.elim False.elim False.elim)⟩,(Below.refl _ _).alloc (Nat.le_refl _) _⟩
def EK (L:Lk):Lk:={ L with token:=L.token + 1,phase:=1,known:=false,queue:=[],sent:=0,base:=4294967293,expected:=4294967293,idle:=0 }
theorem Jt {L:Lk} (h:L.Ok) (ht:L.token < 4294967295):(EK L).Ok:=by
 have h1:=h.own; have h2:=h.token; have h3:=h.AL; have h4:=h.yours; have h5:=h.out
 constructor <;> simp [EK] <;> omega
theorem NJ {w:World} {B g:Nat} {Af Ac:Nat → Prop} {L:Lk} {q o:Value} (h:At w B Af Ac g L q o) (hok:L.Ok) (ht:L.token < 4294967295):Calls Try.prog 72 #[.pointer (some ⟨g,0,none⟩)] w fun e w' => e = .returned (.tuple #[]) ∧ At w' B (fun _ => False) Ac g (EK L) (.slice none 0 0) o ∧ Go.Proofs.Ytnkkgofpifhoeaa.Steps.At g w w':=by
 have hc2:w.cell? ⟨g,2,none⟩ = some (.int .u32 L.token):=(AA h.blk 2).trans rfl
 have ht1:=hok.token
 have K0:=Lib.hid (⟨h,Steps.At.refl g w⟩:At w B Af Ac g L q o ∧ Go.Proofs.Ytnkkgofpifhoeaa.Steps.At g w w)
 clear h hok
 go_enter Try.func72,Try.ntmps72
 go_wp2_with (first | ((with_reducible refine gate_ (.store 24 (.tmp 8) (.tmp 6)) rfl ?_); (refine AY (fun wz => At wz B Af Ac g { L with token:=L.token + 1 } q o ∧ Go.Proofs.Ytnkkgofpifhoeaa.Steps.At g w wz) rfl rfl ⟨_,(by have hz1:World.cell? _ ⟨g,2,none⟩ = some _:=(AA K0.out.1.blk 2).trans rfl; have hz2:=AB K0.out.1.blk 2; first | (go_simp; done) | (go_simp; rfl)),K0.out.1.F6 2 _ rfl rfl rfl,Steps.At.set K0.out.2 _ _⟩ (fun Bl hF => ?_)); (have K1:=Lib.hid hF); (clear hF)) | ((with_reducible refine gate_ (.store 3 (.tmp 11) (.const (.int .i64 1))) rfl ?_); (refine AY (fun wz => At wz B Af Ac g { L with token:=L.token + 1,phase:=1 } q o ∧ Go.Proofs.Ytnkkgofpifhoeaa.Steps.At g w wz) rfl rfl ⟨_,(by have hz1:World.cell? _ ⟨g,1,none⟩ = some _:=(AA K1.out.1.blk 1).trans rfl; have hz2:=AB K1.out.1.blk 1; first | (go_simp; done) | (go_simp; rfl)),K1.out.1.F6 1 _ rfl rfl rfl,Steps.At.set K1.out.2 _ _⟩ (fun BG hF => ?_)); (have K2:=Lib.hid hF); (clear hF)) | ((with_reducible refine gate_ (.store 4 (.tmp 14) (.const (.bool false))) rfl ?_); (refine AY (fun wz => At wz B Af Ac g { L with token:=L.token + 1,phase:=1,known:=false } q o ∧ Go.Proofs.Ytnkkgofpifhoeaa.Steps.At g w wz) rfl rfl ⟨_,(by have hz1:World.cell? _ ⟨g,5,none⟩ = some _:=(AA K2.out.1.blk 5).trans rfl; have hz2:=AB K2.out.1.blk 5; first | (go_simp; done) | (go_simp; rfl)),K2.out.1.F6 5 _ rfl rfl rfl,Steps.At.set K2.out.2 _ _⟩ (fun CJ hF => ?_)); (have K3:=Lib.hid hF); (clear hF)) | ((with_reducible refine gate_ (.store 45 (.tmp 17) (.const (.slice none 0 0))) rfl ?_); (refine AY (fun wz => At wz B (fun _ => False) Ac g { L with token:=L.token + 1,phase:=1,known:=false,queue:=[] } (.slice none 0 0) o ∧ Go.Proofs.Ytnkkgofpifhoeaa.Steps.At g w wz) rfl rfl ⟨_,(by have hz1:World.cell? _ ⟨g,6,none⟩ = some _:=(AA K3.out.1.blk 6).trans rfl; have hz2:=AB K3.out.1.blk 6; first | (go_simp; done) | (go_simp; rfl)),K3.out.1.noq rfl rfl rfl,Steps.At.set K3.out.2 _ _⟩ (fun Dl hF => ?_)); (have K4:=Lib.hid hF); (clear hF)) | ((with_reducible refine gate_ (.store 3 (.tmp 20) (.const (.int .i64 0))) rfl ?_); (refine AY (fun wz => At wz B (fun _ => False) Ac g { L with token:=L.token + 1,phase:=1,known:=false,queue:=[],sent:=0 } (.slice none 0 0) o ∧ Go.Proofs.Ytnkkgofpifhoeaa.Steps.At g w wz) rfl rfl ⟨_,(by have hz1:World.cell? _ ⟨g,7,none⟩ = some _:=(AA K4.out.1.blk 7).trans rfl; have hz2:=AB K4.out.1.blk 7; first | (go_simp; done) | (go_simp; rfl)),K4.out.1.F6 7 _ rfl rfl rfl,Steps.At.set K4.out.2 _ _⟩ (fun ED hF => ?_)); (have K5:=Lib.hid hF); (clear hF)) | ((with_reducible refine gate_ (.store 24 (.tmp 24) (.const (.int .u32 4294967293))) rfl ?_); (refine AY (fun wz => At wz B (fun _ => False) Ac g { L with token:=L.token + 1,phase:=1,known:=false,queue:=[],sent:=0,base:=4294967293 } (.slice none 0 0) o ∧ Go.Proofs.Ytnkkgofpifhoeaa.Steps.At g w wz) rfl rfl ⟨_,(by have hz1:World.cell? _ ⟨g,8,none⟩ = some _:=(AA K5.out.1.blk 8).trans rfl; have hz2:=AB K5.out.1.blk 8; first | (go_simp; done) | (go_simp; rfl)),K5.out.1.F6 8 _ rfl rfl rfl,Steps.At.set K5.out.2 _ _⟩ (fun IM hF => ?_)); (have K6:=Lib.hid hF); (clear hF)) | ((with_reducible refine gate_ (.store 24 (.tmp 26) (.const (.int .u32 4294967293))) rfl ?_); (refine AY (fun wz => At wz B (fun _ => False) Ac g { L with token:=L.token + 1,phase:=1,known:=false,queue:=[],sent:=0,base:=4294967293,expected:=4294967293 } (.slice none 0 0) o ∧ Go.Proofs.Ytnkkgofpifhoeaa.Steps.At g w wz) rfl rfl ⟨_,(by have hz1:World.cell? _ ⟨g,9,none⟩ = some _:=(AA K6.out.1.blk 9).trans rfl; have hz2:=AB K6.out.1.blk 9; first | (go_simp; done) | (go_simp; rfl)),K6.out.1.F6 9 _ rfl rfl rfl,Steps.At.set K6.out.2 _ _⟩ (fun Hz hF => ?_)); (have K7:=Lib.hid hF); (clear hF)) | ((with_reducible refine gate_ (.store 3 (.tmp 29) (.const (.int .i64 0))) rfl ?_); (refine AY (fun wz => At wz B (fun _ => False) Ac g { L with token:=L.token + 1,phase:=1,known:=false,queue:=[],sent:=0,base:=4294967293,expected:=4294967293,idle:=0 } (.slice none 0 0) o ∧ Go.Proofs.Ytnkkgofpifhoeaa.Steps.At g w wz) rfl rfl ⟨_,(by have hz1:World.cell? _ ⟨g,10,none⟩ = some _:=(AA K7.out.1.blk 10).trans rfl; have hz2:=AB K7.out.1.blk 10; first | (go_simp; done) | (go_simp; rfl)),K7.out.1.F6 10 _ rfl rfl rfl,Steps.At.set K7.out.2 _ _⟩ (fun NK hF => ?_)); (have K8:=Lib.hid hF); (clear hF)))
 refine bodyPost_end (results_none rfl _ _ _) rfl ?_
 exact ⟨rfl,K8.out.1,K8.out.2⟩
end Go.Proofs.Ytnkkgofpifhoeaa.Lk
end
