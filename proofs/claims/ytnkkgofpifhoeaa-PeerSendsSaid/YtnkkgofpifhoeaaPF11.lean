/- What the laws of a pair are proved with: links and pairs in memory, what their methods do, what a pair keeps to (part 11). -/
import Derived.Test.YtnkkgofpifhoeaaPF09
import Derived.Laws.StructEq
import Derived.Test.YtnkkgofpifhoeaaChecked
import Derived.Lib.Hide
set_option linter.unusedSimpArgs false
set_option linter.unusedVariables false
set_option maxRecDepth 100000
set_option maxHeartbeats 16000000
section
namespace Go.Proofs.Ytnkkgofpifhoeaa.jJ
open Go.RowKit Go.Proofs.Ytnkkgofpifhoeaa.Base Go.Proofs.Ytnkkgofpifhoeaa.Pk Go.Proofs.YtnkkgofpifhoeaaW.PrintWords Go.Proofs.YtnkkgofpifhoeaaW.PrintLast Go.Proofs.Ytnkkgofpifhoeaa.Steps
theorem Vr (w:World):(Instr.index 108 table (.int .i64 4)).run Try.prog w = .ok (.agg #[.bool false,.bool true,.bool true,.bool false,.int .i64 41,.int .i64 41]) w:=by kernel_rfl
def EH (w:World) (L:List Int) (e:Ending) (w':World):Prop:=∃ v,e = .returned (.tuple #[v,.int .i64 0]) ∧ (Kd.int .u8).R 5 w' w.heap.size (fun _ => True) v L ∧ Below w.heap.size w w'
theorem Rl (mine AL yours seq AX stamp echo:Int) (zr zi:Nat) (A:Option Addr) (c:Nat) (body:List Int) (w:World) (hC:Kd.C (Kd.int .u8) w A body.length body) (hbl:body.length ≤ 20000)
  (hck:Aj 4 mine AL yours seq AX stamp echo zr zi body.length = 0) (hp:zr < 18446744073709551616) (hq:zi < 18446744073709551616) :
  Calls Try.prog 19 #[.agg #[.int .i64 4,.int .u32 mine,.int .u32 AL,.int .u32 yours,.int .u32 seq,.int .u32 AX,.int .u32 stamp,.int .u32 echo,.complex .f64 zr zi,.slice A body.length c]] w (EH w ((((((((([4] ++ CJ (IntKind.u64.wrap mine)) ++ CJ (IntKind.u64.wrap AL)) ++ CJ (IntKind.u64.wrap yours)) ++ CJ (IntKind.u64.wrap AX)) ++ CJ (IntKind.u64.wrap stamp)) ++ CJ (IntKind.u64.wrap echo)) ++ DU (zr:Int)) ++ DU (zi:Int)) ++ body)):=by
 have DV:=Try.underlying27
 have Ep:=Try.underlying107
 have hix:=Vr
 have Es:=Lib.hid hck
 have HC:=Lib.hid hC
 have HL:=Lib.hid hbl
 have BZ:=Lib.hid hp
 have Vs:=Lib.hid hq
 clear hck hC hbl hp hq
 go_enter Try.func19,Try.ntmps19
 go_wp2_with (go_at_call 20; refine (check_any _ _ _ _ _ _ _ _ _ _ _ _ _ _ BZ.out Vs.out).mono ?_; rintro e w1 ⟨rfl,hb⟩; rw [Es.out]; have HX:=Lib.hid ((hb.block w.heap.size (by simp)).trans (heap_alloc_new w (.cells #[.int .i64 4,.int .u32 mine,.int .u32 AL,.int .u32 yours,.int .u32 seq,.int .u32 AX,.int .u32 stamp,.int .u32 echo,.complex .f64 zr zi,.slice A body.length c] 27))); have HW:=Lib.hid (((Below.refl w.heap.size w).alloc (Nat.le_refl _) (.cells #[.int .i64 4,.int .u32 mine,.int .u32 AL,.int .u32 yours,.int .u32 seq,.int .u32 AX,.int .u32 stamp,.int .u32 echo,.complex .f64 zr zi,.slice A body.length c] 27)).trans (hb.mono (by simp))); clear hb)
 have DC:w1.drew.heap[w.heap.size]? = some (.cells #[.int .i64 4,.int .u32 mine,.int .u32 AL,.int .u32 yours,.int .u32 seq,.int .u32 AX,.int .u32 stamp,.int .u32 echo,.complex .f64 zr zi,.slice A body.length c] 27 (0,0)):=HX.out
 have Aq:Below w.heap.size w w1.drew:=Am HW.out
 clear HX HW
 have HW:=Lib.hid Aq
 clear Aq
 refine BC (n:=6) (S:=fun w' => w'.heap[w.heap.size]? = some (.cells #[.int .i64 4,.int .u32 mine,.int .u32 AL,.int .u32 yours,.int .u32 seq,.int .u32 AX,.int .u32 stamp,.int .u32 echo,.complex .f64 zr zi,.slice A body.length c] 27 (0,0))) (ds:=[]) Zr (by kernel_rfl) rfl rfl (DC) (fun hHeld => ?_)
 generalize w1.drew = w2 at HW hHeld ⊢
 refine pu 1 13 Zt ?_
 refine tk 2 14 Zu hHeld ?_ (hf:=by intro w' s0; have hc0:w'.cell? ⟨w.heap.size,0,none⟩ = some (.int .i64 4):=(AA s0 0).trans rfl; clear s0; go_simp; with_reducible rfl)
 refine Dv (σ:=Nat) 1 XK (fun g => [(12,table),(15,.agg #[.bool false,.bool true,.bool true,.bool false,.int .i64 41,.int .i64 41]),(5,.pointer (some ⟨g,0,none⟩))]) (fun g w' => w'.heap[g]? = some (.cells #[.bool false,.bool false,.bool false,.bool false,.int .i64 0,.int .i64 0] 107 (0,0)) ∧ Below w.heap.size w w' ∧ w.heap.size < g ∧ w'.heap[w.heap.size]? = some (.cells #[.int .i64 4,.int .u32 mine,.int .u32 AL,.int .u32 yours,.int .u32 seq,.int .u32 AX,.int .u32 stamp,.int .u32 echo,.complex .f64 zr zi,.slice A body.length c] 27 (0,0))) ?_ ?_
 rotate_left
 ·intro hcont
  exact Z2
 intro g w3 ⟨hbx,hbel,hgt,hHeld⟩
 clear HW
 refine Dn (a':=?_) ?_ ?_
 rotate_left
 ·show Ak _ _ = _
  simp only [Ak,Act.put,sA,sZ,sS]
  rfl
 have hd0:w3.cell? ⟨g,0,none⟩ = some (.bool false):=(AA hbx 0).trans rfl
 have hf0:=AB hbx 0
 have hd1:w3.cell? ⟨g,1,none⟩ = some (.bool false):=(AA hbx 1).trans rfl
 have hf1:=AB hbx 1
 have hd2:w3.cell? ⟨g,2,none⟩ = some (.bool false):=(AA hbx 2).trans rfl
 have hf2:=AB hbx 2
 have hd3:w3.cell? ⟨g,3,none⟩ = some (.bool false):=(AA hbx 3).trans rfl
 have hf3:=AB hbx 3
 have hd4:w3.cell? ⟨g,4,none⟩ = some (.int .i64 0):=(AA hbx 4).trans rfl
 have hf4:=AB hbx 4
 have hd5:w3.cell? ⟨g,5,none⟩ = some (.int .i64 0):=(AA hbx 5).trans rfl
 have hf5:=AB hbx 5
 refine on 5 none Zv fun K hK => ?_
 refine BN (fun wz => wz.heap[g]? = some (.cells #[.bool false,.bool true,.bool true,.bool false,.int .i64 41,.int .i64 41] 107 (0,0)) ∧ At g w3 wz) (by rfl) rfl ⟨_,by first | (go_simp; done) | (go_simp; rfl),?_,?_⟩ (fun w4 hF => ?_)
 ·skip
  exact aI
 ·repeat (first | (with_reducible exact At.refl _ _) | refine At.set ?_ _ _)
 obtain ⟨hB4,hat⟩:=hF
 have Ns:=(hat.block w.heap.size (by omega)).trans hHeld
 have HW:=Lib.hid (hat.below hbel (by omega))
 have HB:=Lib.hid hB4
 clear hbx hbel hat hHeld hB4 hd0 hf0 hd1 hf1 hd2 hf2 hd3 hf3 hd4 hf4 hd5 hf5
 refine hK.out _ _ Ns (fun hHeld => ?_)
 clear hK K Ns
 refine BU (by kernel_rfl) ?_
 have HX:=Lib.hid hHeld
 clear hHeld
 go_wp2_with fail
 have DC:w4.drew.heap[w.heap.size]? = some (.cells #[.int .i64 4,.int .u32 mine,.int .u32 AL,.int .u32 yours,.int .u32 seq,.int .u32 AX,.int .u32 stamp,.int .u32 echo,.complex .f64 zr zi,.slice A body.length c] 27 (0,0)):=HX.out
 have Bf:w4.drew.heap[g]? = some (.cells #[.bool false,.bool true,.bool true,.bool false,.int .i64 41,.int .i64 41] 107 (0,0)):=HB.out
 have Aq:Below w.heap.size w w4.drew:=Am HW.out
 clear HX HB HW
 have HB:=Lib.hid Bf
 have HW:=Lib.hid Aq
 clear Bf Aq
 refine BC (n:=17) (S:=fun w' => w'.heap[w.heap.size]? = some (.cells #[.int .i64 4,.int .u32 mine,.int .u32 AL,.int .u32 yours,.int .u32 seq,.int .u32 AX,.int .u32 stamp,.int .u32 echo,.complex .f64 zr zi,.slice A body.length c] 27 (0,0))) (ds:=[]) ZF (by kernel_rfl) rfl rfl (DC) (fun hHeld => ?_)
 generalize w4.drew = w5 at HB HW hHeld ⊢
 refine pu 0 16 ZG ?_
 refine tk 1 17 ZH hHeld ?_ (hf:=by intro w' s0; have hc0:w'.cell? ⟨w.heap.size,0,none⟩ = some (.int .i64 4):=(AA s0 0).trans rfl; clear s0; go_simp; with_reducible rfl)
 refine pu 2 18 ZI ?_
 refine pu 4 20 ZJ ?_
 refine tk 5 21 ZK hHeld ?_ (hf:=by intro w' s0; have hc1:w'.cell? ⟨w.heap.size,1,none⟩ = some (.int .u32 mine):=(AA s0 1).trans rfl; clear s0; go_simp; with_reducible rfl)
 refine pu 6 22 ZL ?_
 refine pu 8 24 ZN ?_
 refine tk 9 25 ZP hHeld ?_ (hf:=by intro w' s0; have hc2:w'.cell? ⟨w.heap.size,2,none⟩ = some (.int .u32 AL):=(AA s0 2).trans rfl; clear s0; go_simp; with_reducible rfl)
 refine pu 10 26 ZR ?_
 refine pu 12 28 ZU ?_
 refine tk 13 29 ZW hHeld ?_ (hf:=by intro w' s0; have hc3:w'.cell? ⟨w.heap.size,3,none⟩ = some (.int .u32 yours):=(AA s0 3).trans rfl; clear s0; go_simp; with_reducible rfl)
 refine pu 14 30 ZY ?_
 refine on 3 (some 19) Za fun K hK => ?_
 refine GH (v:=.slice (some ⟨w5.heap.size,0,none⟩) 1 1) (by rfl) rfl (w1:=w5.alloc (.cells #[.int .u8 4] 5)) ?_ ?_
 ·first | (go_simp; done) | (go_simp; rfl)
 have ED:=(Below.refl w5.heap.size w5).alloc (Nat.le_refl _) (.cells #[.int .u8 4] 5)
 have CU:=O1 w5 w.heap.size [4] HW.out.size (by decide)
 have LD:(Kd.int .u8).R 5 (w5.alloc (.cells #[.int .u8 4] 5)) w.heap.size (fun _ => True) (.slice (some ⟨w5.heap.size,0,none⟩) 1 1) [4]:=CU
 have Bv:=(ED.block w.heap.size (AU hHeld)).trans hHeld
 have DK:=(ED.block g (AU HB.out)).trans HB.out
 have Aq:=HW.out.trans (ED.mono HW.out.size)
 generalize hv0:Value.slice (some ⟨w5.heap.size,0,none⟩) 1 1 = v0 at LD ⊢
 clear hv0 ED CU
 generalize w5.alloc (.cells #[.int .u8 4] 5) = w6 at LD Bv DK Aq ⊢
 clear HW HB
 have HR:=Lib.hid LD
 have HW:=Lib.hid Aq
 have HB:=Lib.hid DK
 clear LD Aq DK
 refine hK.out _ _ Bv (fun hHeld => ?_)
 clear hK K Bv
 refine nm 19 ?_
 refine on 7 (some 23) Zc fun K hK => ?_
 refine BR Try.func64 (by kernel_rfl) rfl #[v0,.int .u64 (IntKind.u64.wrap mine),.int .i64 4] (by rfl) rfl rfl (by (try simp only [List.map_toArray,List.map_cons,List.map_nil]); first | done | rfl) ?_
 refine (Bg w _ _ _ _ HW.out HR.out (by have:=HL.out; simp [CJ,DU]; try omega)).mono ?_
 rintro e w7 ⟨v7,rfl,CU,hBl,hkeep⟩
 have Bv:=hkeep w.heap.size _ 27 (by decide) hHeld
 have DK:=hkeep g _ 107 (by decide) HB.out
 clear HR HB HW hkeep
 have HR:=Lib.hid CU
 have HB:=Lib.hid DK
 have HW:=Lib.hid hBl
 clear CU DK hBl
 refine ⟨_,rfl,?_⟩
 refine hK.out _ _ Bv (fun hHeld => ?_)
 clear hK K Bv
 refine nm 23 ?_
 refine on 11 (some 27) M10 fun K hK => ?_
 refine BR Try.func64 (by kernel_rfl) rfl #[v7,.int .u64 (IntKind.u64.wrap AL),.int .i64 4] (by rfl) rfl rfl (by (try simp only [List.map_toArray,List.map_cons,List.map_nil]); first | done | rfl) ?_
 refine (Bg w _ _ _ _ HW.out HR.out (by have:=HL.out; simp [CJ,DU]; try omega)).mono ?_
 rintro e w8 ⟨v8,rfl,CU,hBl,hkeep⟩
 have Bv:=hkeep w.heap.size _ 27 (by decide) hHeld
 have DK:=hkeep g _ 107 (by decide) HB.out
 clear HR HB HW hkeep
 have HR:=Lib.hid CU
 have HB:=Lib.hid DK
 have HW:=Lib.hid hBl
 clear CU DK hBl
 refine ⟨_,rfl,?_⟩
 refine hK.out _ _ Bv (fun hHeld => ?_)
 clear hK K Bv
 refine nm 27 ?_
 refine on 15 (some 31) M13 fun K hK => ?_
 refine BR Try.func64 (by kernel_rfl) rfl #[v8,.int .u64 (IntKind.u64.wrap yours),.int .i64 4] (by rfl) rfl rfl (by (try simp only [List.map_toArray,List.map_cons,List.map_nil]); first | done | rfl) ?_
 refine (Bg w _ _ _ _ HW.out HR.out (by have:=HL.out; simp [CJ,DU]; try omega)).mono ?_
 rintro e w9 ⟨v9,rfl,CU,hBl,hkeep⟩
 have Bv:=hkeep w.heap.size _ 27 (by decide) hHeld
 have DK:=hkeep g _ 107 (by decide) HB.out
 clear HR HB HW hkeep
 have HR:=Lib.hid CU
 have HB:=Lib.hid DK
 have HW:=Lib.hid hBl
 clear CU DK hBl
 refine ⟨_,rfl,?_⟩
 refine hK.out _ _ Bv (fun hHeld => ?_)
 clear hK K Bv
 refine nm 31 ?_
 refine pu 16 6 Zd ?_
 refine BU (by kernel_rfl) ?_
 have HX:=Lib.hid hHeld
 clear hHeld
 have hc0:w9.cell? ⟨w.heap.size,0,none⟩ = some (.int .i64 4):=(AA HX.out 0).trans rfl
 have hc1:w9.cell? ⟨w.heap.size,1,none⟩ = some (.int .u32 mine):=(AA HX.out 1).trans rfl
 have hc2:w9.cell? ⟨w.heap.size,2,none⟩ = some (.int .u32 AL):=(AA HX.out 2).trans rfl
 have hc3:w9.cell? ⟨w.heap.size,3,none⟩ = some (.int .u32 yours):=(AA HX.out 3).trans rfl
 have hc4:w9.cell? ⟨w.heap.size,4,none⟩ = some (.int .u32 seq):=(AA HX.out 4).trans rfl
 have hc5:w9.cell? ⟨w.heap.size,5,none⟩ = some (.int .u32 AX):=(AA HX.out 5).trans rfl
 have hc6:w9.cell? ⟨w.heap.size,6,none⟩ = some (.int .u32 stamp):=(AA HX.out 6).trans rfl
 have Hq:w9.cell? ⟨w.heap.size,7,none⟩ = some (.int .u32 echo):=(AA HX.out 7).trans rfl
 have hc8:w9.cell? ⟨w.heap.size,8,none⟩ = some (.complex .f64 zr zi):=(AA HX.out 8).trans rfl
 have Gv:w9.cell? ⟨w.heap.size,9,none⟩ = some (.slice A body.length c):=(AA HX.out 9).trans rfl
 have hr0:w9.cell? ⟨g,0,none⟩ = some (.bool false):=(AA HB.out 0).trans rfl
 have hr1:w9.cell? ⟨g,1,none⟩ = some (.bool true):=(AA HB.out 1).trans rfl
 have hr2:w9.cell? ⟨g,2,none⟩ = some (.bool true):=(AA HB.out 2).trans rfl
 have hr3:w9.cell? ⟨g,3,none⟩ = some (.bool false):=(AA HB.out 3).trans rfl
 go_wp2_with (first | ((go_at_call 64); (with_reducible refine (Bg w w9 v9 _ _ HW.out HR.out (by have:=HL.out; simp [CJ,DU]; try omega)).mono ?_); (rintro e w10 ⟨v10,rfl,CU,hBl,hkeep⟩); (have Bv:=hkeep w.heap.size _ 27 (by decide) HX.out); (have DK:=hkeep g _ 107 (by decide) HB.out); (clear HR HB HW hkeep); (have HR:=Lib.hid CU); (have HB:=Lib.hid DK); (have HW:=Lib.hid hBl); (clear CU DK hBl); (clear HX); (have HX:=Lib.hid Bv); (clear Bv); (have hc0:w10.cell? ⟨w.heap.size,0,none⟩ = some (.int .i64 4):=(AA HX.out 0).trans rfl); (have hc1:w10.cell? ⟨w.heap.size,1,none⟩ = some (.int .u32 mine):=(AA HX.out 1).trans rfl); (have hc2:w10.cell? ⟨w.heap.size,2,none⟩ = some (.int .u32 AL):=(AA HX.out 2).trans rfl); (have hc3:w10.cell? ⟨w.heap.size,3,none⟩ = some (.int .u32 yours):=(AA HX.out 3).trans rfl); (have hc4:w10.cell? ⟨w.heap.size,4,none⟩ = some (.int .u32 seq):=(AA HX.out 4).trans rfl); (have hc5:w10.cell? ⟨w.heap.size,5,none⟩ = some (.int .u32 AX):=(AA HX.out 5).trans rfl); (have hc6:w10.cell? ⟨w.heap.size,6,none⟩ = some (.int .u32 stamp):=(AA HX.out 6).trans rfl); (have Hq:w10.cell? ⟨w.heap.size,7,none⟩ = some (.int .u32 echo):=(AA HX.out 7).trans rfl); (have hc8:w10.cell? ⟨w.heap.size,8,none⟩ = some (.complex .f64 zr zi):=(AA HX.out 8).trans rfl); (have Gv:w10.cell? ⟨w.heap.size,9,none⟩ = some (.slice A body.length c):=(AA HX.out 9).trans rfl); (have hr0:w10.cell? ⟨g,0,none⟩ = some (.bool false):=(AA HB.out 0).trans rfl); (have hr1:w10.cell? ⟨g,1,none⟩ = some (.bool true):=(AA HB.out 1).trans rfl); (have hr2:w10.cell? ⟨g,2,none⟩ = some (.bool true):=(AA HB.out 2).trans rfl); (have hr3:w10.cell? ⟨g,3,none⟩ = some (.bool false):=(AA HB.out 3).trans rfl)))
 have DC:w10.drew.heap[w.heap.size]? = some (.cells #[.int .i64 4,.int .u32 mine,.int .u32 AL,.int .u32 yours,.int .u32 seq,.int .u32 AX,.int .u32 stamp,.int .u32 echo,.complex .f64 zr zi,.slice A body.length c] 27 (0,0)):=HX.out
 have Bf:w10.drew.heap[g]? = some (.cells #[.bool false,.bool true,.bool true,.bool false,.int .i64 41,.int .i64 41] 107 (0,0)):=HB.out
 have Aq:Below w.heap.size w w10.drew:=Am HW.out
 have Bl:=Kd.Dk HR.out (Am (Below.refl _ _))
 clear HR
 clear HX HB HW
 have HB:=Lib.hid Bf
 have HW:=Lib.hid Aq
 clear Bf Aq
 have HR:=Lib.hid Bl
 clear Bl
 refine BC (n:=10) (S:=fun w' => w'.heap[w.heap.size]? = some (.cells #[.int .i64 4,.int .u32 mine,.int .u32 AL,.int .u32 yours,.int .u32 seq,.int .u32 AX,.int .u32 stamp,.int .u32 echo,.complex .f64 zr zi,.slice A body.length c] 27 (0,0))) (ds:=[]) oQ (by kernel_rfl) rfl rfl (DC) (fun hHeld => ?_)
 generalize w10.drew = FO at HB HW HR hHeld ⊢
 refine pu 0 55 oV ?_
 refine pu 1 56 oZ ?_
 refine tk 2 57 oh hHeld ?_ (hf:=by intro w' s0; have hc6:w'.cell? ⟨w.heap.size,6,none⟩ = some (.int .u32 stamp):=(AA s0 6).trans rfl; clear s0; go_simp; with_reducible rfl)
 refine pu 3 58 oz ?_
 refine pu 5 60 o6 ?_
 refine tk 6 61 o7 hHeld ?_ (hf:=by intro w' s0; have Hq:w'.cell? ⟨w.heap.size,7,none⟩ = some (.int .u32 echo):=(AA s0 7).trans rfl; clear s0; go_simp; with_reducible rfl)
 refine pu 7 62 o8 ?_
 refine on 4 (some 59) o9 fun K hK => ?_
 refine BR Try.func64 (by kernel_rfl) rfl #[v10,.int .u64 (IntKind.u64.wrap stamp),.int .i64 4] (by rfl) rfl rfl (by (try simp only [List.map_toArray,List.map_cons,List.map_nil]); first | done | rfl) ?_
 refine (Bg w _ _ _ _ HW.out HR.out (by have:=HL.out; simp [CJ,DU]; try omega)).mono ?_
 rintro e w12 ⟨v12,rfl,CU,hBl,hkeep⟩
 have Bv:=hkeep w.heap.size _ 27 (by decide) hHeld
 have DK:=hkeep g _ 107 (by decide) HB.out
 clear HR HB HW hkeep
 have HR:=Lib.hid CU
 have HB:=Lib.hid DK
 have HW:=Lib.hid hBl
 clear CU DK hBl
 refine ⟨_,rfl,?_⟩
 refine hK.out _ _ Bv (fun hHeld => ?_)
 clear hK K Bv
 refine nm 59 ?_
 refine on 8 (some 63) pF fun K hK => ?_
 refine BR Try.func64 (by kernel_rfl) rfl #[v12,.int .u64 (IntKind.u64.wrap echo),.int .i64 4] (by rfl) rfl rfl (by (try simp only [List.map_toArray,List.map_cons,List.map_nil]); first | done | rfl) ?_
 refine (Bg w _ _ _ _ HW.out HR.out (by have:=HL.out; simp [CJ,DU]; try omega)).mono ?_
 rintro e Ii ⟨v13,rfl,CU,hBl,hkeep⟩
 have Bv:=hkeep w.heap.size _ 27 (by decide) hHeld
 have DK:=hkeep g _ 107 (by decide) HB.out
 clear HR HB HW hkeep
 have HR:=Lib.hid CU
 have HB:=Lib.hid DK
 have HW:=Lib.hid hBl
 clear CU DK hBl
 refine ⟨_,rfl,?_⟩
 refine hK.out _ _ Bv (fun hHeld => ?_)
 clear hK K Bv
 refine nm 63 ?_
 refine pu 9 6 pG ?_
 refine BU (by kernel_rfl) ?_
 have HX:=Lib.hid hHeld
 clear hHeld
 go_wp2_with fail
 have DC:Ii.drew.heap[w.heap.size]? = some (.cells #[.int .i64 4,.int .u32 mine,.int .u32 AL,.int .u32 yours,.int .u32 seq,.int .u32 AX,.int .u32 stamp,.int .u32 echo,.complex .f64 zr zi,.slice A body.length c] 27 (0,0)):=HX.out
 have Bf:Ii.drew.heap[g]? = some (.cells #[.bool false,.bool true,.bool true,.bool false,.int .i64 41,.int .i64 41] 107 (0,0)):=HB.out
 have Aq:Below w.heap.size w Ii.drew:=Am HW.out
 have Bl:=Kd.Dk HR.out (Am (Below.refl _ _))
 clear HR
 clear HX HB HW
 have HB:=Lib.hid Bf
 have HW:=Lib.hid Aq
 clear Bf Aq
 have HR:=Lib.hid Bl
 clear Bl
 refine BC (n:=12) (S:=fun w' => w'.heap[w.heap.size]? = some (.cells #[.int .i64 4,.int .u32 mine,.int .u32 AL,.int .u32 yours,.int .u32 seq,.int .u32 AX,.int .u32 stamp,.int .u32 echo,.complex .f64 zr zi,.slice A body.length c] 27 (0,0))) (ds:=[]) Zf (by kernel_rfl) rfl rfl (DC) (fun hHeld => ?_)
 generalize Ii.drew = Tz at HB HW HR hHeld ⊢
 refine pu 0 64 Zg ?_
 refine pu 1 65 Zh ?_
 refine tk 2 66 Zi hHeld ?_ (hf:=by intro w' s0; have hc8:w'.cell? ⟨w.heap.size,8,none⟩ = some (.complex .f64 zr zi):=(AA s0 8).trans rfl; clear s0; go_simp; with_reducible rfl)
 refine pu 3 67 Zj ?_
 refine pu 6 70 ny ?_
 refine tk 7 71 oD hHeld ?_ (hf:=by intro w' s0; have hc8:w'.cell? ⟨w.heap.size,8,none⟩ = some (.complex .f64 zr zi):=(AA s0 8).trans rfl; clear s0; go_simp; with_reducible rfl)
 refine pu 8 72 oH ?_
 refine on 4 (some 68) oJ fun K hK => ?_
 refine GH (v:=.int .u64 (zr:Int)) (by rfl) rfl (w1:=Tz) ?_ ?_
 ·first | (go_simp; done) | (go_simp; rfl)
 refine hK.out _ _ hHeld (fun hHeld => ?_)
 clear hK K
 refine nm 68 ?_
 refine on 5 (some 69) Zk fun K hK => ?_
 refine BR Try.func64 (by kernel_rfl) rfl #[v13,.int .u64 ((zr:Int)),.int .i64 8] (by rfl) rfl rfl (by (try simp only [List.map_toArray,List.map_cons,List.map_nil]); first | done | rfl) ?_
 refine (L9 w _ _ _ _ HW.out HR.out (by have:=HL.out; simp [CJ,DU]; try omega)).mono ?_
 rintro e Qn ⟨v15,rfl,CU,hBl,hkeep⟩
 have Bv:=hkeep w.heap.size _ 27 (by decide) hHeld
 have DK:=hkeep g _ 107 (by decide) HB.out
 clear HR HB HW hkeep
 have HR:=Lib.hid CU
 have HB:=Lib.hid DK
 have HW:=Lib.hid hBl
 clear CU DK hBl
 refine ⟨_,rfl,?_⟩
 refine hK.out _ _ Bv (fun hHeld => ?_)
 clear hK K Bv
 refine nm 69 ?_
 refine on 9 (some 73) Zl fun K hK => ?_
 refine GH (v:=.int .u64 (zi:Int)) (by rfl) rfl (w1:=Qn) ?_ ?_
 ·first | (go_simp; done) | (go_simp; rfl)
 refine hK.out _ _ hHeld (fun hHeld => ?_)
 clear hK K
 refine nm 73 ?_
 refine on 10 (some 74) Zm fun K hK => ?_
 refine BR Try.func64 (by kernel_rfl) rfl #[v15,.int .u64 ((zi:Int)),.int .i64 8] (by rfl) rfl rfl (by (try simp only [List.map_toArray,List.map_cons,List.map_nil]); first | done | rfl) ?_
 refine (L9 w _ _ _ _ HW.out HR.out (by have:=HL.out; simp [CJ,DU]; try omega)).mono ?_
 rintro e w16 ⟨v16,rfl,CU,hBl,hkeep⟩
 have Bv:=hkeep w.heap.size _ 27 (by decide) hHeld
 have DK:=hkeep g _ 107 (by decide) HB.out
 clear HR HB HW hkeep
 have HR:=Lib.hid CU
 have HB:=Lib.hid DK
 have HW:=Lib.hid hBl
 clear CU DK hBl
 refine ⟨_,rfl,?_⟩
 refine hK.out _ _ Bv (fun hHeld => ?_)
 clear hK K Bv
 refine nm 74 ?_
 refine pu 11 6 Zn ?_
 refine BU (by kernel_rfl) ?_
 have HX:=Lib.hid hHeld
 clear hHeld
 have hc0:w16.cell? ⟨w.heap.size,0,none⟩ = some (.int .i64 4):=(AA HX.out 0).trans rfl
 have hc1:w16.cell? ⟨w.heap.size,1,none⟩ = some (.int .u32 mine):=(AA HX.out 1).trans rfl
 have hc2:w16.cell? ⟨w.heap.size,2,none⟩ = some (.int .u32 AL):=(AA HX.out 2).trans rfl
 have hc3:w16.cell? ⟨w.heap.size,3,none⟩ = some (.int .u32 yours):=(AA HX.out 3).trans rfl
 have hc4:w16.cell? ⟨w.heap.size,4,none⟩ = some (.int .u32 seq):=(AA HX.out 4).trans rfl
 have hc5:w16.cell? ⟨w.heap.size,5,none⟩ = some (.int .u32 AX):=(AA HX.out 5).trans rfl
 have hc6:w16.cell? ⟨w.heap.size,6,none⟩ = some (.int .u32 stamp):=(AA HX.out 6).trans rfl
 have Hq:w16.cell? ⟨w.heap.size,7,none⟩ = some (.int .u32 echo):=(AA HX.out 7).trans rfl
 have hc8:w16.cell? ⟨w.heap.size,8,none⟩ = some (.complex .f64 zr zi):=(AA HX.out 8).trans rfl
 have Gv:w16.cell? ⟨w.heap.size,9,none⟩ = some (.slice A body.length c):=(AA HX.out 9).trans rfl
 have hr0:w16.cell? ⟨g,0,none⟩ = some (.bool false):=(AA HB.out 0).trans rfl
 have hr1:w16.cell? ⟨g,1,none⟩ = some (.bool true):=(AA HB.out 1).trans rfl
 have hr2:w16.cell? ⟨g,2,none⟩ = some (.bool true):=(AA HB.out 2).trans rfl
 have hr3:w16.cell? ⟨g,3,none⟩ = some (.bool false):=(AA HB.out 3).trans rfl
 go_wp2_with (first | ((with_reducible refine AV (N:=78) rfl ?_); (refine Kd.EG (h1:=fun _ => rfl) (Value.int .u8) 0 (w0:=w) w.heap.size rfl (.tmp 75) (.tmp 77) 22 5 (.int .u8 0) 1 rfl Try.underlying22 info5 rfl (by decide) v16 _ (body) _ _ _ (fun _ => True) rfl rfl (fun _ _ => trivial) HR.out (Kd.BK HC.out HW.out) HW.out HW.out.size (by have:=HL.out; simp [CJ,DU]; try omega) ?_); (intro v17 uI CU hBl _ _); (clear HR HW); (have HR:=Lib.hid CU); (have HW:=Lib.hid hBl); (clear CU hBl)))
 go_ret2
 unfold EH
 exact ⟨_,rfl,HR.out,HW.out⟩
end Go.Proofs.Ytnkkgofpifhoeaa.jJ
end
section
namespace Go.Proofs.Ytnkkgofpifhoeaa.Lk
open Go.RowKit Go.Proofs.Ytnkkgofpifhoeaa.Steps Go.Proofs.YtnkkgofpifhoeaaW.PrintWords
structure BL where
 kind:Int
 mine:Int
 AL:Int
 yours:Int
 seq:Int
 AX:Int
 stamp:Int
 echo:Int
 zr:Nat
 zi:Nat
 body:List Int
def cx:Kd (Nat × Nat):=Kd.scalar (fun z => .complex .f64 z.1 z.2) (fun _ => rfl)
def Nu:Kd Int:=Kd.int .u32
def bytes:Kd (List Int):=Kd.slice 5 (Kd.int .u8)
def pkt:Kd BL:=Kd.pJ (Kd.pair (Kd.int .i64) (Kd.pair Nu (Kd.pair Nu (Kd.pair Nu (Kd.pair Nu (Kd.pair Nu (Kd.pair Nu (Kd.pair Nu (Kd.pair cx bytes)))))))))
 (fun p => (p.kind,p.mine,p.AL,p.yours,p.seq,p.AX,p.stamp,p.echo,(p.zr,p.zi),p.body))
def cells (p:BL) (b:Value):List Value:=[.int .i64 p.kind,.int .u32 p.mine,.int .u32 p.AL,.int .u32 p.yours,.int .u32 p.seq,.int .u32 p.AX,.int .u32 p.stamp,.int .u32 p.echo,.complex .f64 p.zr p.zi,b]
theorem Vt:pkt.sz = 10:=rfl
theorem Xv:pkt.E = [5]:=rfl
theorem F6 {w:World} {base:Nat} {ok:Nat → Prop} {p:BL} {cs:List Value}:pkt.M w base ok p cs ↔ ∃ b,cs = cells p b ∧ (Kd.int .u8).R 5 w base ok b p.body:=by
 constructor
 ·rintro ⟨_,_,rfl,rfl,_,_,rfl,rfl,_,_,rfl,rfl,_,_,rfl,rfl,_,_,rfl,rfl,_,_,rfl,rfl,_,_,rfl,rfl,_,_,rfl,rfl,_,_,rfl,rfl,b,rfl,h⟩
  exact ⟨b,rfl,h⟩
 ·rintro ⟨b,rfl,h⟩
  exact ⟨_,_,rfl,rfl,_,_,rfl,rfl,_,_,rfl,rfl,_,_,rfl,rfl,_,_,rfl,rfl,_,_,rfl,rfl,_,_,rfl,rfl,_,_,rfl,rfl,_,_,rfl,rfl,b,rfl,h⟩
structure Lk where
 own:Int
 phase:Int
 token:Int
 AL:Int
 yours:Int
 known:Bool
 queue:List (List Int)
 sent:Int
 base:Int
 expected:Int
 idle:Int
 out:List BL
structure Lk.Ok (L:Lk):Prop where
 own:0 ≤ L.own ∧ L.own < 4294967296
 phase:0 ≤ L.phase ∧ L.phase ≤ 2
 token:0 ≤ L.token ∧ L.token < 4294967296
 AL:0 ≤ L.AL ∧ L.AL < 4294967296
 yours:0 ≤ L.yours ∧ L.yours < 4294967296
 queue:L.queue.length ≤ 64
 rows:∀ r ∈ L.queue,r.length ≤ 1000
 sent:0 ≤ L.sent ∧ L.sent ≤ L.queue.length ∧ L.sent ≤ 8
 base:0 ≤ L.base ∧ L.base < 4294967296
 expected:0 ≤ L.expected ∧ L.expected < 4294967296
 idle:0 ≤ L.idle ∧ L.idle ≤ 1000
 out:L.out.length ≤ 1024
def row (L:Lk) (q o:Value):Array Value:=#[.int .u32 L.own,.int .i64 L.phase,.int .u32 L.token,.int .u32 L.AL,.int .u32 L.yours,.bool L.known,q,.int .i64 L.sent,.int .u32 L.base,.int .u32 L.expected,.int .i64 L.idle,o]
structure At (w:World) (B:Nat) (Af Ac:Nat → Prop) (g:Nat) (L:Lk) (q o:Value):Prop where
 blk:w.heap[g]? = some (.cells (row L q o) 131 (0,0))
 queue:bytes.Q 22 w B Af q L.queue
 out:pkt.R 27 w B Ac o L.out
 low:B ≤ g
 apart:∀ k,Af k → ¬ Ac k
 old:∀ k,Af k ∨ Ac k → k < w.heap.size ∧ k ≠ g
def holds (Af Ac:Nat → Prop) (g:Nat):Nat → Prop:=fun k => Af k ∨ Ac k ∨ k = g
theorem At.kept {w w1:World} {B g:Nat} {Af Ac S:Nat → Prop} {L:Lk} {q o:Value} (h:At w B Af Ac g L q o) (hk:Kept w w1 S) (hd:∀ k,holds Af Ac g k → ¬ S k):At w1 B Af Ac g L q o :=
 ⟨Ah h.blk hk (hd g (.inr (.inr rfl))),Kd.Kt h.queue hk (fun k ho => hd k (.inl ho)),Kd.BJ h.out hk (fun k ho => hd k (.inr (.inl ho))),h.low,h.apart,fun k hk' => ⟨Nat.lt_of_lt_of_le (h.old k hk').1 hk.1,(h.old k hk').2⟩⟩
theorem At.below {w w1:World} {B g:Nat} {Af Ac:Nat → Prop} {L:Lk} {q o:Value} (h:At w B Af Ac g L q o) (hb:Below w.heap.size w w1):At w1 B Af Ac g L q o:=h.kept (Kept.of_below hb (fun _ => False)) (fun _ _ hf => hf)
theorem At.put {w:World} {B g:Nat} {Af Ac GK JR:Nat → Prop} {L L':Lk} {q o q' o':Value} (h:At w B Af Ac g L q o) (i:Nat) (u:Value) (e:(row L q o).setIfInBounds i u = row L' q' o')
  (hq:bytes.Q 22 w B GK q' L'.queue) (hout:pkt.R 27 w B JR o' L'.out) (hap:∀ k,GK k → ¬ JR k) (hold:∀ k,GK k ∨ JR k → k < w.heap.size ∧ k ≠ g):At (w.setCell ⟨g,i,none⟩ u) B GK JR g L' q' o':=by
 have hk:Kept w (w.setCell ⟨g,i,none⟩ u) (fun k => k = g):=Kept.setCell (S:=fun k => k = g) (Kept.refl w _) (p:=⟨g,i,none⟩) (.inl rfl) u
 exact ⟨AQ h.blk i u e,Kd.Kt hq hk (fun k ho => (hold k (.inl ho)).2),Kd.BJ hout hk (fun k ho => (hold k (.inr ho)).2),h.low,hap,fun k hk' => ⟨Nat.lt_of_lt_of_le (hold k hk').1 hk.1,(hold k hk').2⟩⟩
theorem At.Hw {w:World} {B g:Nat} {Af Ac:Nat → Prop} {L L':Lk} {q o:Value} (h:At w B Af Ac g L q o) (i:Nat) (u:Value) (e:(row L q o).setIfInBounds i u = row L' q o) (hq:L'.queue = L.queue) (ho:L'.out = L.out):At (w.setCell ⟨g,i,none⟩ u) B Af Ac g L' q o :=
 h.put i u e (hq ▸ h.queue) (ho ▸ h.out) h.apart h.old
theorem At.noq {w:World} {B g:Nat} {Af Ac:Nat → Prop} {L L':Lk} {q o:Value} (h:At w B Af Ac g L q o) (e:(row L q o).setIfInBounds 6 (.slice none 0 0) = row L' (.slice none 0 0) o) (hq:L'.queue = []) (ho:L'.out = L.out):At (w.setCell ⟨g,6,none⟩ (.slice none 0 0)) B (fun _ => False) Ac g L' (.slice none 0 0) o :=
 h.put 6 _ e (hq ▸ Kd.VI _ _ _ _ _) (ho ▸ h.out) (fun _ hf => hf.elim) (fun k hk => h.old k (.inr (hk.elim (fun f => False.elim f) (fun x => x))))
end Go.Proofs.Ytnkkgofpifhoeaa.Lk
end
section
namespace Go.Proofs.Ytnkkgofpifhoeaa.Lk
open Go.RowKit Go.Proofs.Ytnkkgofpifhoeaa.Base Go.Proofs.Ytnkkgofpifhoeaa.Steps Go.Proofs.YtnkkgofpifhoeaaW.PrintWords Go.Proofs.YtnkkgofpifhoeaaW.PrintLast
theorem Rn {w:World} {B g:Nat} {Af Ac:Nat → Prop} {L:Lk} {q o:Value} (h:At w B Af Ac g L q o):Calls Try.prog 29 #[.pointer (some ⟨g,0,none⟩)] w fun e w' => e = .returned (.int .i64 L.phase) ∧ w = w':=by
 have hc1:w.cell? ⟨g,1,none⟩ = some (.int .i64 L.phase):=(AA h.blk 1).trans rfl
 clear h
 go_enter Try.func29,Try.ntmps29
 go_wp2
 all_goals (go_ret; exact ⟨rfl,rfl⟩)
theorem Ro {w:World} {B g:Nat} {Af Ac:Nat → Prop} {L:Lk} {q o:Value} (h:At w B Af Ac g L q o):Calls Try.prog 31 #[.pointer (some ⟨g,0,none⟩)] w fun e w' => e = .returned (.int .i64 L.queue.length) ∧ w = w':=by
 obtain ⟨A,c,hq,hl⟩:=Kd.E5 h.queue
 have hc6:w.cell? ⟨g,6,none⟩ = some (.slice A L.queue.length c):=(AA h.blk 6).trans (by rw [hq]; rfl)
 clear h
 go_enter Try.func31,Try.ntmps31
 go_wp2
 all_goals (go_ret; exact ⟨rfl,rfl⟩)
def newL (own:Int):Lk:=⟨own,0,0,0,0,false,[],0,0,0,0,[]⟩
theorem O5 (own:Int) (ho:0 < own ∧ own < 4294967296):(newL own).Ok:=by constructor <;> simp [newL] <;> omega
theorem Nv (own:Int) (ho:0 < own ∧ own < 4294967296) (w:World) (B:Nat) (hB:B ≤ w.heap.size):Calls Try.prog 26 #[.int .u32 own] w fun e w' => e = .returned (.tuple #[.pointer (some ⟨w.heap.size,0,none⟩),.int .i64 0]) ∧ At w' B (fun _ => False) (fun _ => False) w.heap.size (newL own) (.slice none 0 0) (.slice none 0 0) ∧ Below w.heap.size w w':=by
 have ho1:¬ own = 0:=by omega
 go_enter Try.func26,Try.ntmps26
 go_wp2
 all_goals go_ret2
 exact ⟨rfl,⟨heap_alloc_new w _,Kd.VI _ _ _ _ _,Kd.CZ _ _ _ _ _,hB,fun _ h => h.elim,fun k hk => (hk.elim False.elim False.elim)⟩,(Below.refl _ _).alloc (Nat.le_refl _) _⟩
def Dj (L:Lk):Lk:={ L with token:=L.token + 1,phase:=1,known:=false,queue:=[],sent:=0,base:=4294967293,expected:=4294967293,idle:=0 }
theorem JS {L:Lk} (h:L.Ok) (ht:L.token < 4294967295):(Dj L).Ok:=by
 have h1:=h.own; have h2:=h.token; have h3:=h.AL; have h4:=h.yours; have h5:=h.out
 constructor <;> simp [Dj] <;> omega
theorem MB {w:World} {B g:Nat} {Af Ac:Nat → Prop} {L:Lk} {q o:Value} (h:At w B Af Ac g L q o) (hok:L.Ok) (ht:L.token < 4294967295):Calls Try.prog 72 #[.pointer (some ⟨g,0,none⟩)] w fun e w' => e = .returned (.tuple #[]) ∧ At w' B (fun _ => False) Ac g (Dj L) (.slice none 0 0) o ∧ Go.Proofs.Ytnkkgofpifhoeaa.Steps.At g w w':=by
 have hc2:w.cell? ⟨g,2,none⟩ = some (.int .u32 L.token):=(AA h.blk 2).trans rfl
 have ht1:=hok.token
 have K0:=Lib.hid (⟨h,Steps.At.refl g w⟩:At w B Af Ac g L q o ∧ Go.Proofs.Ytnkkgofpifhoeaa.Steps.At g w w)
 clear h hok
 go_enter Try.func72,Try.ntmps72
 go_wp2_with (first | ((with_reducible refine gate_ (.store 24 (.tmp 8) (.tmp 6)) rfl ?_); (refine AZ (fun wz => At wz B Af Ac g { L with token:=L.token + 1 } q o ∧ Go.Proofs.Ytnkkgofpifhoeaa.Steps.At g w wz) rfl rfl ⟨_,(by have hz1:World.cell? _ ⟨g,2,none⟩ = some _:=(AA K0.out.1.blk 2).trans rfl; have hz2:=AB K0.out.1.blk 2; first | (go_simp; done) | (go_simp; rfl)),K0.out.1.Hw 2 _ rfl rfl rfl,Steps.At.set K0.out.2 _ _⟩ (fun CQ hF => ?_)); (have K1:=Lib.hid hF); (clear hF)) | ((with_reducible refine gate_ (.store 3 (.tmp 11) (.const (.int .i64 1))) rfl ?_); (refine AZ (fun wz => At wz B Af Ac g { L with token:=L.token + 1,phase:=1 } q o ∧ Go.Proofs.Ytnkkgofpifhoeaa.Steps.At g w wz) rfl rfl ⟨_,(by have hz1:World.cell? _ ⟨g,1,none⟩ = some _:=(AA K1.out.1.blk 1).trans rfl; have hz2:=AB K1.out.1.blk 1; first | (go_simp; done) | (go_simp; rfl)),K1.out.1.Hw 1 _ rfl rfl rfl,Steps.At.set K1.out.2 _ _⟩ (fun BM hF => ?_)); (have K2:=Lib.hid hF); (clear hF)) | ((with_reducible refine gate_ (.store 4 (.tmp 14) (.const (.bool false))) rfl ?_); (refine AZ (fun wz => At wz B Af Ac g { L with token:=L.token + 1,phase:=1,known:=false } q o ∧ Go.Proofs.Ytnkkgofpifhoeaa.Steps.At g w wz) rfl rfl ⟨_,(by have hz1:World.cell? _ ⟨g,5,none⟩ = some _:=(AA K2.out.1.blk 5).trans rfl; have hz2:=AB K2.out.1.blk 5; first | (go_simp; done) | (go_simp; rfl)),K2.out.1.Hw 5 _ rfl rfl rfl,Steps.At.set K2.out.2 _ _⟩ (fun CE hF => ?_)); (have K3:=Lib.hid hF); (clear hF)) | ((with_reducible refine gate_ (.store 45 (.tmp 17) (.const (.slice none 0 0))) rfl ?_); (refine AZ (fun wz => At wz B (fun _ => False) Ac g { L with token:=L.token + 1,phase:=1,known:=false,queue:=[] } (.slice none 0 0) o ∧ Go.Proofs.Ytnkkgofpifhoeaa.Steps.At g w wz) rfl rfl ⟨_,(by have hz1:World.cell? _ ⟨g,6,none⟩ = some _:=(AA K3.out.1.blk 6).trans rfl; have hz2:=AB K3.out.1.blk 6; first | (go_simp; done) | (go_simp; rfl)),K3.out.1.noq rfl rfl rfl,Steps.At.set K3.out.2 _ _⟩ (fun DW hF => ?_)); (have K4:=Lib.hid hF); (clear hF)) | ((with_reducible refine gate_ (.store 3 (.tmp 20) (.const (.int .i64 0))) rfl ?_); (refine AZ (fun wz => At wz B (fun _ => False) Ac g { L with token:=L.token + 1,phase:=1,known:=false,queue:=[],sent:=0 } (.slice none 0 0) o ∧ Go.Proofs.Ytnkkgofpifhoeaa.Steps.At g w wz) rfl rfl ⟨_,(by have hz1:World.cell? _ ⟨g,7,none⟩ = some _:=(AA K4.out.1.blk 7).trans rfl; have hz2:=AB K4.out.1.blk 7; first | (go_simp; done) | (go_simp; rfl)),K4.out.1.Hw 7 _ rfl rfl rfl,Steps.At.set K4.out.2 _ _⟩ (fun D5 hF => ?_)); (have K5:=Lib.hid hF); (clear hF)) | ((with_reducible refine gate_ (.store 24 (.tmp 24) (.const (.int .u32 4294967293))) rfl ?_); (refine AZ (fun wz => At wz B (fun _ => False) Ac g { L with token:=L.token + 1,phase:=1,known:=false,queue:=[],sent:=0,base:=4294967293 } (.slice none 0 0) o ∧ Go.Proofs.Ytnkkgofpifhoeaa.Steps.At g w wz) rfl rfl ⟨_,(by have hz1:World.cell? _ ⟨g,8,none⟩ = some _:=(AA K5.out.1.blk 8).trans rfl; have hz2:=AB K5.out.1.blk 8; first | (go_simp; done) | (go_simp; rfl)),K5.out.1.Hw 8 _ rfl rfl rfl,Steps.At.set K5.out.2 _ _⟩ (fun G5 hF => ?_)); (have K6:=Lib.hid hF); (clear hF)) | ((with_reducible refine gate_ (.store 24 (.tmp 26) (.const (.int .u32 4294967293))) rfl ?_); (refine AZ (fun wz => At wz B (fun _ => False) Ac g { L with token:=L.token + 1,phase:=1,known:=false,queue:=[],sent:=0,base:=4294967293,expected:=4294967293 } (.slice none 0 0) o ∧ Go.Proofs.Ytnkkgofpifhoeaa.Steps.At g w wz) rfl rfl ⟨_,(by have hz1:World.cell? _ ⟨g,9,none⟩ = some _:=(AA K6.out.1.blk 9).trans rfl; have hz2:=AB K6.out.1.blk 9; first | (go_simp; done) | (go_simp; rfl)),K6.out.1.Hw 9 _ rfl rfl rfl,Steps.At.set K6.out.2 _ _⟩ (fun Gq hF => ?_)); (have K7:=Lib.hid hF); (clear hF)) | ((with_reducible refine gate_ (.store 3 (.tmp 29) (.const (.int .i64 0))) rfl ?_); (refine AZ (fun wz => At wz B (fun _ => False) Ac g { L with token:=L.token + 1,phase:=1,known:=false,queue:=[],sent:=0,base:=4294967293,expected:=4294967293,idle:=0 } (.slice none 0 0) o ∧ Go.Proofs.Ytnkkgofpifhoeaa.Steps.At g w wz) rfl rfl ⟨_,(by have hz1:World.cell? _ ⟨g,10,none⟩ = some _:=(AA K7.out.1.blk 10).trans rfl; have hz2:=AB K7.out.1.blk 10; first | (go_simp; done) | (go_simp; rfl)),K7.out.1.Hw 10 _ rfl rfl rfl,Steps.At.set K7.out.2 _ _⟩ (fun MC hF => ?_)); (have K8:=Lib.hid hF); (clear hF)))
 refine bodyPost_end (results_none rfl _ _ _) rfl ?_
 exact ⟨rfl,K8.out.1,K8.out.2⟩
end Go.Proofs.Ytnkkgofpifhoeaa.Lk
end
