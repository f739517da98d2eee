/- What the laws of a pair are proved with: links and pairs in memory, what their methods do, what a pair keeps to (part 6). -/
import Derived.Test.YtnkkgofpifhoeaaPE05
set_option linter.unusedSimpArgs false
set_option linter.unusedVariables false
set_option maxRecDepth 100000
set_option maxHeartbeats 16000000
section
namespace Go.Proofs.Ytnkkgofpifhoeaa.Lk
open Go.RowKit Go.Proofs.Ytnkkgofpifhoeaa.Base Go.Proofs.Ytnkkgofpifhoeaa.Steps Go.Proofs.Ytnkkgofpifhoeaa.Pk Go.Proofs.Ytnkkgofpifhoeaa.yU Go.Proofs.YtnkkgofpifhoeaaW.PrintWords Go.Proofs.YtnkkgofpifhoeaaW.PrintLast
theorem Tj {w:World} {B g:Nat} {Ak Aj S:Nat → Prop} {L:Lk} {q o:Value} (h:At w B Ak Aj g L q o) (hok:L.Ok) (hS:∀ k,holds Ak Aj g k → S k) (hB:B ≤ w.heap.size) (AB:Int) (p:Bz) (Ab:Option Addr) (cb:Nat)
  (hb0:AB ≠ 0) (hbr:0 ≤ AB ∧ AB < 4294967296) (hpr:p.NT) (hck:Bg p.kind p.mine p.AB p.yours p.seq p.AV p.stamp p.echo p.zr p.zi p.body.length = 0)  (DT:L.phase = 2) (hag:Bo L AB p.mine = 0) (hmn:BI L p = true) (hpl:p.body.length ≤ 1000) {CY:Nat → Prop} (hR:(Kd.int .u8).R 5 w B CY (.slice Ab p.body.length cb) p.body) (hkp:∀ k,CY k → ¬ S k) (kn:Nat) (hkk:IntKind.u32.wrap (p.AV - L.base) = kn) (hkd:p.kind = 2) (Jc:¬ p.seq = L.expected) (h1k:1 ≤ kn) (hks:(kn:Int) ≤ L.sent) :
  Calls Try.prog 34 #[.pointer (some ⟨g,0,none⟩),.int .u32 AB,.agg #[.int .i64 p.kind,.int .u32 p.mine,.int .u32 p.AB,.int .u32 p.yours,.int .u32 p.seq,.int .u32 p.AV,.int .u32 p.stamp,.int .u32 p.echo,.complex .f64 p.zr p.zi,.slice Ab p.body.length cb]] w fun e w' => EW w B S g (emit_ (BL (CZ (L) kn)) (Hy (BL (CZ (L) kn)))) true false false [] e w':=by
 have IQ:=Lib.hid (show (((w.alloc (.cells #[.int .i64 p.kind,.int .u32 p.mine,.int .u32 p.AB,.int .u32 p.yours,.int .u32 p.seq,.int .u32 p.AV,.int .u32 p.stamp,.int .u32 p.echo,.complex .f64 p.zr p.zi,.slice Ab p.body.length cb] 27)).alloc (.cells #[.bool false,.bool false,.bool false,.slice none 0 0] 56))).heap[w.heap.size]? = some (.cells #[.int .i64 p.kind,.int .u32 p.mine,.int .u32 p.AB,.int .u32 p.yours,.int .u32 p.seq,.int .u32 p.AV,.int .u32 p.stamp,.int .u32 p.echo,.complex .f64 p.zr p.zi,.slice Ab p.body.length cb] 27 (0,0)) from (Below.heap_alloc _ _ _ (by simp)).trans (heap_alloc_new w _))
 have H:=Lib.hid h
 have OK:=Lib.hid hok
 have HS:=Lib.hid hS
 have Em:=Lib.hid hpr
 have IU:=Lib.hid hck
 have hbz:(AB == 0) = false:=by simp [hb0]
 have FH:=Lib.hid DT
 clear DT
 have Jz:=Lib.hid hag
 clear hag
 have GN:=Lib.hid hkd
 clear hkd
 clear hbr
 have NU:=Lib.hid hmn
 clear hmn
 have YJ:=Lib.hid hR
 have Oq:=Lib.hid hkp
 have VP:=Lib.hid hpl
 clear hR hkp hpl
 have HKK:=Lib.hid hkk
 clear hkk
 have hlb:=OK.out.sent
 have YK:=OK.out.queue
 have hd6:(p.seq == L.expected) = false:=by simp [Jc]
 clear Jc
 have hd7:decide ((kn:Int) ≥ 1) = true:=by simp; omega
 have hd8:decide ((kn:Int) ≤ L.sent) = true:=by simp; omega
 have hw8:IntKind.u32.wrap L.sent = L.sent:=by rw [FZ]; omega
 clear h1k
 have Q3:=Lib.hid hks
 clear hks
 obtain ⟨A6,c6,hq6,GY⟩:=Kd.Gy h.queue
 subst hq6
 have YL:=Lib.hid (show kn ≤ L.queue.length by have:=Q3.out; omega)
 have hsl:=Po A6 L.queue.length c6 kn YL.out GY
 obtain ⟨A7,Pq⟩:∃ A,A = (if c6 = kn then A6 else A6.map (·.add (kn * bytes.sz))):=⟨_,rfl⟩
 rw [← Pq] at hsl
 have ay:=Lib.hid Pq
 clear Pq
 clear GY
 have hkq:=YL.out
 generalize VK:L.queue.length = qn at H hsl hkq hlb YK
 have S9:=Lib.hid VK
 clear VK
 have hc4:kn < 4294967296:=by omega
 clear h hok hS hpr hck hb0
 go_enter Try.func34,Try.ntmps34
 go_wp2_with fail
 refine BF 3 (fun C HC => ?_)
 go_wp2_with (first | ((with_reducible refine AO (N:=17) rfl ?_); (refine wpList_load_row rfl 27 (.tmp 5) rfl w.heap.size (by rfl) 27 #[.int .i64 p.kind,.int .u32 p.mine,.int .u32 p.AB,.int .u32 p.yours,.int .u32 p.seq,.int .u32 p.AV,.int .u32 p.stamp,.int .u32 p.echo,.complex .f64 p.zr p.zi,.slice Ab p.body.length cb] (0,0) _ IQ.out Try.underlying27 rfl (by kernel_rfl) ?_)) | (go_at_call 20; (refine (check_any _ _ _ _ _ _ _ _ _ _ _ _ _ _ Em.out.zr Em.out.zi).mono ?_); (rintro e BX ⟨rfl,hb⟩); (rw [IU.out]); (have K0:=Lib.hid (TS.start (pc:=#[.int .i64 p.kind,.int .u32 p.mine,.int .u32 p.AB,.int .u32 p.yours,.int .u32 p.seq,.int .u32 p.AV,.int .u32 p.stamp,.int .u32 p.echo,.complex .f64 p.zr p.zi,.slice Ab p.body.length cb]) H.out HS.out hB (hb.mono (by simp)))); (clear hb); (have hl1:BX.cell? ⟨g,1,none⟩ = some (.int .i64 2):=(AA K0.out.at_.blk 1).trans (congrArg (fun x => some (Value.int .i64 x)) FH.out)); (have hp0:BX.cell? ⟨w.heap.size,0,none⟩ = some (.int .i64 2):=(AA K0.out.pb 0).trans (congrArg (fun x => some (Value.int .i64 x)) GN.out)); (have hp1:BX.cell? ⟨w.heap.size,1,none⟩ = some (.int .u32 p.mine):=(AA K0.out.pb 1).trans rfl)) | (go_at_call 76; (refine (Dy K0.out.at_ AB p.mine).mono ?_); (rintro e w1 ⟨rfl,rfl⟩); (rw [Jz.out])) | ((with_reducible refine AO (N:=59) rfl ?_); (refine Dl (by rfl) ?_); (refine wpList_load_row rfl 27 (.tmp 5) rfl w.heap.size (by rfl) 27 _ (0,0) _ (by first | exact K0.out.pb | exact (K0.out.drewN hB _).pb) Try.underlying27 rfl (by kernel_rfl) ?_)) | (go_at_call 77; (refine (EE K0.out.at_ p (.slice Ab p.body.length cb)).mono ?_); (rintro e Ce ⟨rfl,hb⟩); (have hme:BI (L) p = true:=NU.out); (rw [hme]); (clear hme); (have K1:=Lib.hid (K0.out.sub hB hb)); (clear hb); (clear hl1 hp0 hp1)) | ((with_reducible refine gate_ (.store 4 (.tmp 62) (.const (.bool true))) rfl ?_); (refine AU (fun wz => TS w B S g #[.int .i64 p.kind,.int .u32 p.mine,.int .u32 p.AB,.int .u32 p.yours,.int .u32 p.seq,.int .u32 p.AV,.int .u32 p.stamp,.int .u32 p.echo,.complex .f64 p.zr p.zi,.slice Ab p.body.length cb] Ak Aj (fun _ => False) (L) (.slice A6 qn c6) o true false false (.slice none 0 0) [] wz) rfl rfl ⟨_,(by have hz1:World.cell? Ce ⟨w.heap.size + 1,0,none⟩ = some _:=(AA K1.out.tb 0).trans rfl; have hz2:=AL K1.out.tb 0; first | (go_simp; done) | (go_simp; rfl)),TS.FM K1.out hB 0 _ rfl⟩ (fun BZ hF => ?_)); (have K2:=Lib.hid hF); (clear hF); (have Jd:BZ.cell? ⟨g,9,none⟩ = some (.int .u32 L.expected):=(AA K2.out.at_.blk 9).trans rfl); (have hp0:BZ.cell? ⟨w.heap.size,0,none⟩ = some (.int .i64 2):=(AA K2.out.pb 0).trans (congrArg (fun x => some (Value.int .i64 x)) GN.out)); (have Oo:BZ.cell? ⟨w.heap.size,4,none⟩ = some (.int .u32 p.seq):=(AA K2.out.pb 4).trans rfl)))
 refine wp_goto ?_
 refine Jump.goto HC.out rfl ?_
 go_wp2_with fail
 go_quiet (fail)
 rename Nat => Gj
 clear Jd hp0 Oo
 have Dt:BZ.cell? ⟨g,8,none⟩ = some (.int .u32 L.base):=(AA K2.out.at_.blk 8).trans rfl
 have GY:BZ.cell? ⟨g,6,none⟩ = some ((.slice A6 qn c6)):=(AA K2.out.at_.blk 6).trans rfl
 have Fa:BZ.cell? ⟨g,7,none⟩ = some (.int .i64 L.sent):=(AA K2.out.at_.blk 7).trans rfl
 have VQ:BZ.cell? ⟨w.heap.size,5,none⟩ = some (.int .u32 p.AV):=(AA K2.out.pb 5).trans rfl
 have hp0:BZ.cell? ⟨w.heap.size,0,none⟩ = some (.int .i64 2):=(AA K2.out.pb 0).trans (congrArg (fun x => some (Value.int .i64 x)) GN.out)
 go_wp2_with fail
 go_quiet ((go_at_call 79; refine (FY _ _ _).mono fun _ _ hq => ⟨hq.1.trans (congrArg (fun x => Ending.returned (.int .u32 x)) HKK.out),_,hq.2.symm⟩))
 rename Nat => GR
 go_wp2_with (first | ((with_reducible refine gate_ (.store 45 (.tmp 162) (.tmp 160)) rfl ?_); (refine AU (fun wz => TS w B S g #[.int .i64 p.kind,.int .u32 p.mine,.int .u32 p.AB,.int .u32 p.yours,.int .u32 p.seq,.int .u32 p.AV,.int .u32 p.stamp,.int .u32 p.echo,.complex .f64 p.zr p.zi,.slice Ab p.body.length cb] Ak Aj (fun _ => False) ({ L with queue:=(L).queue.drop kn }) (.slice A7 (qn - kn) (c6 - kn)) o true false false (.slice none 0 0) [] wz) rfl rfl ⟨_,(by have hz1:World.cell? BZ ⟨g,6,none⟩ = some _:=(AA K2.out.at_.blk 6).trans rfl; have hz2:=AL K2.out.at_.blk 6; first | (go_simp; done) | (go_simp; rfl)),TS.cut (K2.out.drewN hB (Gj + GR)) hB rfl YL.out ay.out⟩ (fun DK hF => ?_)); (have K3:=Lib.hid hF); (clear hF); (clear Dt GY Fa VQ hp0); (have Dt:DK.cell? ⟨g,8,none⟩ = some (.int .u32 L.base):=(AA K3.out.at_.blk 8).trans rfl); (have Fa:DK.cell? ⟨g,7,none⟩ = some (.int .i64 L.sent):=(AA K3.out.at_.blk 7).trans rfl); (have hp0:DK.cell? ⟨w.heap.size,0,none⟩ = some (.int .i64 2):=(AA K3.out.pb 0).trans (congrArg (fun x => some (Value.int .i64 x)) GN.out))) | ((with_reducible refine gate_ (.store 24 (.tmp 170) (.tmp 168)) rfl ?_); (have hT:TS w B S g #[.int .i64 p.kind,.int .u32 p.mine,.int .u32 p.AB,.int .u32 p.yours,.int .u32 p.seq,.int .u32 p.AV,.int .u32 p.stamp,.int .u32 p.echo,.complex .f64 p.zr p.zi,.slice Ab p.body.length cb] Ak Aj (fun _ => False) ({ L with queue:=(L).queue.drop kn,base:=IntKind.u32.wrap (L.base + kn) }) (.slice A7 (qn - kn) (c6 - kn)) o true false false (.slice none 0 0) [] (World.setCell DK ⟨g,8,none⟩ (.int .u32 (IntKind.u32.wrap (L.base + kn)))):=TS.ET K3.out hB 8 (.int .u32 (IntKind.u32.wrap (L.base + kn))) rfl rfl rfl); (refine AU (fun wz => TS w B S g #[.int .i64 p.kind,.int .u32 p.mine,.int .u32 p.AB,.int .u32 p.yours,.int .u32 p.seq,.int .u32 p.AV,.int .u32 p.stamp,.int .u32 p.echo,.complex .f64 p.zr p.zi,.slice Ab p.body.length cb] Ak Aj (fun _ => False) ({ L with queue:=(L).queue.drop kn,base:=IntKind.u32.wrap (L.base + kn) }) (.slice A7 (qn - kn) (c6 - kn)) o true false false (.slice none 0 0) [] wz) rfl rfl ⟨_,(by have hz1:World.cell? DK ⟨g,8,none⟩ = some _:=(AA K3.out.at_.blk 8).trans rfl; have hz2:=AL K3.out.at_.blk 8; first | (go_simp; done) | (go_simp; rfl)),hT⟩ (fun EL hF => ?_)); (have K4:=Lib.hid hF); (clear hF hT); (clear Dt Fa hp0); (have Fa:EL.cell? ⟨g,7,none⟩ = some (.int .i64 L.sent):=(AA K4.out.at_.blk 7).trans rfl); (have hp0:EL.cell? ⟨w.heap.size,0,none⟩ = some (.int .i64 2):=(AA K4.out.pb 0).trans (congrArg (fun x => some (Value.int .i64 x)) GN.out))) | ((with_reducible refine gate_ (.store 3 (.tmp 179) (.tmp 177)) rfl ?_); (have hT:TS w B S g #[.int .i64 p.kind,.int .u32 p.mine,.int .u32 p.AB,.int .u32 p.yours,.int .u32 p.seq,.int .u32 p.AV,.int .u32 p.stamp,.int .u32 p.echo,.complex .f64 p.zr p.zi,.slice Ab p.body.length cb] Ak Aj (fun _ => False) ({ L with queue:=(L).queue.drop kn,base:=IntKind.u32.wrap (L.base + kn),sent:=L.sent - kn }) (.slice A7 (qn - kn) (c6 - kn)) o true false false (.slice none 0 0) [] (World.setCell EL ⟨g,7,none⟩ (.int .i64 (L.sent - kn))):=TS.ET K4.out hB 7 (.int .i64 (L.sent - kn)) rfl rfl rfl); (refine AU (fun wz => TS w B S g #[.int .i64 p.kind,.int .u32 p.mine,.int .u32 p.AB,.int .u32 p.yours,.int .u32 p.seq,.int .u32 p.AV,.int .u32 p.stamp,.int .u32 p.echo,.complex .f64 p.zr p.zi,.slice Ab p.body.length cb] Ak Aj (fun _ => False) ({ L with queue:=(L).queue.drop kn,base:=IntKind.u32.wrap (L.base + kn),sent:=L.sent - kn }) (.slice A7 (qn - kn) (c6 - kn)) o true false false (.slice none 0 0) [] wz) rfl rfl ⟨_,(by have hz1:World.cell? EL ⟨g,7,none⟩ = some _:=(AA K4.out.at_.blk 7).trans rfl; have hz2:=AL K4.out.at_.blk 7; first | (go_simp; done) | (go_simp; rfl)),hT⟩ (fun Ea hF => ?_)); (have K5:=Lib.hid hF); (clear hF hT); (clear Fa hp0); (have hp0:Ea.cell? ⟨w.heap.size,0,none⟩ = some (.int .i64 2):=(AA K5.out.pb 0).trans (congrArg (fun x => some (Value.int .i64 x)) GN.out))) | ((with_reducible refine gate_ (.store 3 (.tmp 182) (.const (.int .i64 0))) rfl ?_); (have hT:TS w B S g #[.int .i64 p.kind,.int .u32 p.mine,.int .u32 p.AB,.int .u32 p.yours,.int .u32 p.seq,.int .u32 p.AV,.int .u32 p.stamp,.int .u32 p.echo,.complex .f64 p.zr p.zi,.slice Ab p.body.length cb] Ak Aj (fun _ => False) (CZ (L) kn) (.slice A7 (qn - kn) (c6 - kn)) o true false false (.slice none 0 0) [] (World.setCell Ea ⟨g,10,none⟩ (.int .i64 0)):=TS.ET K5.out hB 10 (.int .i64 0) rfl rfl rfl); (refine AU (fun wz => TS w B S g #[.int .i64 p.kind,.int .u32 p.mine,.int .u32 p.AB,.int .u32 p.yours,.int .u32 p.seq,.int .u32 p.AV,.int .u32 p.stamp,.int .u32 p.echo,.complex .f64 p.zr p.zi,.slice Ab p.body.length cb] Ak Aj (fun _ => False) (CZ (L) kn) (.slice A7 (qn - kn) (c6 - kn)) o true false false (.slice none 0 0) [] wz) rfl rfl ⟨_,(by have hz1:World.cell? Ea ⟨g,10,none⟩ = some _:=(AA K5.out.at_.blk 10).trans rfl; have hz2:=AL K5.out.at_.blk 10; first | (go_simp; done) | (go_simp; rfl)),hT⟩ (fun Jv hF => ?_)); (have K6:=Lib.hid hF); (clear hF hT); (clear hp0); (have hp0:Jv.cell? ⟨w.heap.size,0,none⟩ = some (.int .i64 2):=(AA K6.out.pb 0).trans (congrArg (fun x => some (Value.int .i64 x)) GN.out))) | (go_at_call 74; (refine (MM K6.out.at_ (Jy (OK.out) Q3.out) (Nat.le_trans hB K6.out.kept.1)).mono ?_); (rintro e Jb ⟨rfl,hE⟩); (obtain ⟨TY,YF,hF⟩:=TS.I8 K6.out hB hE); (clear hE); (have K7:=Lib.hid hF); (clear hF); (clear hp0); (have hp0:Jb.cell? ⟨w.heap.size,0,none⟩ = some (.int .i64 2):=(AA K7.out.pb 0).trans (congrArg (fun x => some (Value.int .i64 x)) GN.out))))
 have hSS:Jb.drew.heap[g]? = some (.cells (row (BL (CZ (L) kn)) (.slice A7 (qn - kn) (c6 - kn)) YF) 131 (0,0)):=K7.out.at_.blk
 have hts:=K7.out.drew hB
 clear hp0
 refine BA (n:=19) (S:=fun w' => w'.heap[g]? = some (.cells (row (BL (CZ (L) kn)) (.slice A7 (qn - kn) (c6 - kn)) YF) 131 (0,0))) (ds:=[18]) oN (by kernel_rfl) rfl rfl (hSS) (fun hHeld => ?_)
 generalize Jb.drew = AEs at hts hHeld ⊢
 have yf:=Lib.hid hts
 clear hts hSS
 have WA:=Lib.hid (GM (⟨3,(BL (CZ (L) kn)).token,(BL (CZ (L) kn)).AB,(BL (CZ (L) kn)).yours,0,(BL (CZ (L) kn)).expected,0,0,0,0,[]⟩:Bz) (.slice none 0 0) yf.out.at_ (VL (Jy (OK.out) Q3.out)) (Nat.le_trans hB yf.out.kept.1) (CY:=fun _ => False) (DY.2 ⟨_,rfl,Kd.D5 _ _ _ _ _⟩) (fun _ hk => hk.elim))
 refine pu 0 188 oO ?_
 refine pu 1 189 oP ?_
 refine pu 2 190 oQ ?_
 refine pu 3 191 oU ?_
 refine tk 4 192 oV hHeld ?_ (hf:=by intro w' s0; have hc2:w'.cell? ⟨g,2,none⟩ = some (.int .u32 (BL (CZ (L) kn)).token):=(AA s0 2).trans rfl; clear s0; go_simp; with_reducible rfl)
 refine pu 5 193 oW ?_
 refine pu 6 194 oZ ?_
 refine pu 7 195 og ?_
 refine tk 8 196 oh hHeld ?_ (hf:=by intro w' s0; have hc3:w'.cell? ⟨g,3,none⟩ = some (.int .u32 (BL (CZ (L) kn)).AB):=(AA s0 3).trans rfl; clear s0; go_simp; with_reducible rfl)
 refine pu 9 197 ou ?_
 refine pu 10 198 oz ?_
 refine pu 11 199 o5 ?_
 refine tk 12 200 o6 hHeld ?_ (hf:=by intro w' s0; have hc4:w'.cell? ⟨g,4,none⟩ = some (.int .u32 (BL (CZ (L) kn)).yours):=(AA s0 4).trans rfl; clear s0; go_simp; with_reducible rfl)
 refine pu 13 201 o7 ?_
 refine pu 14 202 o8 ?_
 refine pu 15 203 o9 ?_
 refine tk 16 204 pF hHeld ?_ (hf:=by intro w' s0; have Bh:w'.cell? ⟨g,9,none⟩ = some (.int .u32 (BL (CZ (L) kn)).expected):=(AA s0 9).trans rfl; clear s0; go_simp; with_reducible rfl)
 refine pu 17 205 pG ?_ (hy:=by intro w'; have CP:=Try.underlying27; go_simp; rfl)
 refine la 18 (some 206) pI fun K hK => ?_
 refine BH Try.func80 (by kernel_rfl) rfl #[.pointer (some ⟨g,0,none⟩),.agg #[.int .i64 3,.int .u32 (BL (CZ (L) kn)).token,.int .u32 (BL (CZ (L) kn)).AB,.int .u32 (BL (CZ (L) kn)).yours,.int .u32 0,.int .u32 (BL (CZ (L) kn)).expected,.int .u32 0,.int .u32 0,.complex .f64 0 0,.slice none 0 0]] (by rfl) rfl rfl (by (try simp only [List.map_toArray,List.map_cons,List.map_nil]); first | done | rfl) ?_
 refine WA.out.mono ?_
 rintro e ax ⟨rfl,hE⟩
 obtain ⟨jP,yV,hF⟩:=TS.I8 yf.out hB hE
 have K9:=Lib.hid hF
 clear hE hF
 refine ⟨_,rfl,?_⟩
 refine hK.out _ _ ?_
 clear hK K
 refine BG (by kernel_rfl) ?_
 go_wp2_with fail
 refine wp_label ?_
 exact Z20
theorem Z6 {p:Prop} (h:p:=by
 refine BA (n:=19) (S:=fun w' => w'.heap[g]? = some (.cells (row (L) q o) 131 (0,0))) (ds:=[18]) oN (by kernel_rfl) rfl rfl (hSS) (fun hHeld => ?_)
 generalize (BZ.drewN (Gj + GR)).drew = AEt at hts hHeld ⊢
 have yg:=Lib.hid hts
 clear hts hSS
 have WA:=Lib.hid (GM (⟨3,(L).token,(L).AB,(L).yours,0,(L).expected,0,0,0,0,[]⟩:Bz) (.slice none 0 0) yg.out.at_ (OK.out) (Nat.le_trans hB yg.out.kept.1) (CY:=fun _ => False) (DY.2 ⟨_,rfl,Kd.D5 _ _ _ _ _⟩) (fun _ hk => hk.elim))
 refine pu 0 188 oO ?_
 refine pu 1 189 oP ?_
 refine pu 2 190 oQ ?_
 refine pu 3 191 oU ?_
 refine tk 4 192 oV hHeld ?_ (hf:=by intro w' s0; have hc2:w'.cell? ⟨g,2,none⟩ = some (.int .u32 (L).token):=(AA s0 2).trans rfl; clear s0; go_simp; with_reducible rfl)
 refine pu 5 193 oW ?_
 refine pu 6 194 oZ ?_
 refine pu 7 195 og ?_
 refine tk 8 196 oh hHeld ?_ (hf:=by intro w' s0; have hc3:w'.cell? ⟨g,3,none⟩ = some (.int .u32 (L).AB):=(AA s0 3).trans rfl; clear s0; go_simp; with_reducible rfl)
 refine pu 9 197 ou ?_
 refine pu 10 198 oz ?_
 refine pu 11 199 o5 ?_
 refine tk 12 200 o6 hHeld ?_ (hf:=by intro w' s0; have hc4:w'.cell? ⟨g,4,none⟩ = some (.int .u32 (L).yours):=(AA s0 4).trans rfl; clear s0; go_simp; with_reducible rfl)
 refine pu 13 201 o7 ?_
 refine pu 14 202 o8 ?_
 refine pu 15 203 o9 ?_
 refine tk 16 204 pF hHeld ?_ (hf:=by intro w' s0; have Bh:w'.cell? ⟨g,9,none⟩ = some (.int .u32 (L).expected):=(AA s0 9).trans rfl; clear s0; go_simp; with_reducible rfl)
 refine pu 17 205 pG ?_ (hy:=by intro w'; have CP:=Try.underlying27; go_simp; rfl)
 refine la 18 (some 206) pI fun K hK => ?_
 refine BH Try.func80 (by kernel_rfl) rfl #[.pointer (some ⟨g,0,none⟩),.agg #[.int .i64 3,.int .u32 (L).token,.int .u32 (L).AB,.int .u32 (L).yours,.int .u32 0,.int .u32 (L).expected,.int .u32 0,.int .u32 0,.complex .f64 0 0,.slice none 0 0]] (by rfl) rfl rfl (by (try simp only [List.map_toArray,List.map_cons,List.map_nil]); first | done | rfl) ?_
 refine WA.out.mono ?_
 rintro e EL ⟨rfl,hE⟩
 obtain ⟨yh,AEu,hF⟩:=TS.I8 yg.out hB hE
 have K4:=Lib.hid hF
 clear hE hF
 refine ⟨_,rfl,?_⟩
 refine hK.out _ _ ?_
 clear hK K
 refine BG (by kernel_rfl) ?_
 go_wp2_with fail
 refine wp_label ?_
 go_wp2_with (first | ((with_reducible refine AO (N:=207) rfl ?_); (refine wpList_load_row rfl 56 (.tmp 6) rfl (w.heap.size + 1) (by rfl) 56 _ (0,0) _ (by first | exact K4.out.tb | exact (K4.out.drewN hB _).tb) Try.underlying56 rfl (by kernel_rfl) ?_)) | ((with_reducible refine gate_ (.store 56 (.tmp 6) (.tmp 207)) rfl ?_); (refine Ad rfl rfl 56 (.tmp 6) (.tmp 207) rfl (w.heap.size + 1) _ rfl rfl 56 _ (by first | exact K4.out.tb | exact (K4.out.drewN hB _).tb) (by kernel_rfl) rfl (by kernel_rfl) ?_); (intro Ea Hg Ey); (have hF:=TS.KQ (by first | exact K4.out | exact K4.out.drewN hB _ | exact K4.out.drew hB) hB Ey Hg (by first | exact K4.out.Fp | exact (K4.out.drewN hB _).Fp) (by first | exact K4.out.okb | exact (K4.out.drewN hB _).okb)); (have K5:=Lib.hid hF); (clear hF Hg Ey)))
 refine Jump.ret ?_
 refine bodyPost_ret ?_ rfl (K5.out.ends)
 exact Az Try.results34 _ _ rfl rfl (run_loadVar_row (P:=Try.prog) _ (w.heap.size + 1) 56 56 _ (0,0) _ K5.out.tb Try.underlying56 rfl (by kernel_rfl))):p:=h
theorem Tm {w:World} {B g:Nat} {Ak Aj S:Nat → Prop} {L:Lk} {q o:Value} (h:At w B Ak Aj g L q o) (hok:L.Ok) (hS:∀ k,holds Ak Aj g k → S k) (hB:B ≤ w.heap.size) (AB:Int) (p:Bz) (Ab:Option Addr) (cb:Nat)
  (hb0:AB ≠ 0) (hbr:0 ≤ AB ∧ AB < 4294967296) (hpr:p.NT) (hck:Bg p.kind p.mine p.AB p.yours p.seq p.AV p.stamp p.echo p.zr p.zi p.body.length = 0)  (DT:L.phase = 2) (hag:Bo L AB p.mine = 0) (hmn:BI L p = true) (hpl:p.body.length ≤ 1000) {CY:Nat → Prop} (hR:(Kd.int .u8).R 5 w B CY (.slice Ab p.body.length cb) p.body) (hkp:∀ k,CY k → ¬ S k) (kn:Nat) (hkk:IntKind.u32.wrap (p.AV - L.base) = kn) (hkd:p.kind = 2) (Jc:¬ p.seq = L.expected) (h1k:kn = 0) :
  Calls Try.prog 34 #[.pointer (some ⟨g,0,none⟩),.int .u32 AB,.agg #[.int .i64 p.kind,.int .u32 p.mine,.int .u32 p.AB,.int .u32 p.yours,.int .u32 p.seq,.int .u32 p.AV,.int .u32 p.stamp,.int .u32 p.echo,.complex .f64 p.zr p.zi,.slice Ab p.body.length cb]] w fun e w' => EW w B S g (emit_ (L) (Hy (L))) true false false [] e w':=by
 have IQ:=Lib.hid (show (((w.alloc (.cells #[.int .i64 p.kind,.int .u32 p.mine,.int .u32 p.AB,.int .u32 p.yours,.int .u32 p.seq,.int .u32 p.AV,.int .u32 p.stamp,.int .u32 p.echo,.complex .f64 p.zr p.zi,.slice Ab p.body.length cb] 27)).alloc (.cells #[.bool false,.bool false,.bool false,.slice none 0 0] 56))).heap[w.heap.size]? = some (.cells #[.int .i64 p.kind,.int .u32 p.mine,.int .u32 p.AB,.int .u32 p.yours,.int .u32 p.seq,.int .u32 p.AV,.int .u32 p.stamp,.int .u32 p.echo,.complex .f64 p.zr p.zi,.slice Ab p.body.length cb] 27 (0,0)) from (Below.heap_alloc _ _ _ (by simp)).trans (heap_alloc_new w _))
 have H:=Lib.hid h
 have OK:=Lib.hid hok
 have HS:=Lib.hid hS
 have Em:=Lib.hid hpr
 have IU:=Lib.hid hck
 have hbz:(AB == 0) = false:=by simp [hb0]
 have FH:=Lib.hid DT
 clear DT
 have Jz:=Lib.hid hag
 clear hag
 have GN:=Lib.hid hkd
 clear hkd
 clear hbr
 have NU:=Lib.hid hmn
 clear hmn
 have YJ:=Lib.hid hR
 have Oq:=Lib.hid hkp
 have VP:=Lib.hid hpl
 clear hR hkp hpl
 have HKK:=Lib.hid hkk
 clear hkk
 have hlb:=OK.out.sent
 have YK:=OK.out.queue
 have hd6:(p.seq == L.expected) = false:=by simp [Jc]
 clear Jc
 have hd7:decide ((kn:Int) ≥ 1) = false:=by simp; omega
 clear h1k
 clear h hok hS hpr hck hb0
 go_enter Try.func34,Try.ntmps34
 go_wp2_with fail
 refine BF 3 (fun C HC => ?_)
 go_wp2_with (first | ((with_reducible refine AO (N:=17) rfl ?_); (refine wpList_load_row rfl 27 (.tmp 5) rfl w.heap.size (by rfl) 27 #[.int .i64 p.kind,.int .u32 p.mine,.int .u32 p.AB,.int .u32 p.yours,.int .u32 p.seq,.int .u32 p.AV,.int .u32 p.stamp,.int .u32 p.echo,.complex .f64 p.zr p.zi,.slice Ab p.body.length cb] (0,0) _ IQ.out Try.underlying27 rfl (by kernel_rfl) ?_)) | (go_at_call 20; (refine (check_any _ _ _ _ _ _ _ _ _ _ _ _ _ _ Em.out.zr Em.out.zi).mono ?_); (rintro e BX ⟨rfl,hb⟩); (rw [IU.out]); (have K0:=Lib.hid (TS.start (pc:=#[.int .i64 p.kind,.int .u32 p.mine,.int .u32 p.AB,.int .u32 p.yours,.int .u32 p.seq,.int .u32 p.AV,.int .u32 p.stamp,.int .u32 p.echo,.complex .f64 p.zr p.zi,.slice Ab p.body.length cb]) H.out HS.out hB (hb.mono (by simp)))); (clear hb); (have hl1:BX.cell? ⟨g,1,none⟩ = some (.int .i64 2):=(AA K0.out.at_.blk 1).trans (congrArg (fun x => some (Value.int .i64 x)) FH.out)); (have hp0:BX.cell? ⟨w.heap.size,0,none⟩ = some (.int .i64 2):=(AA K0.out.pb 0).trans (congrArg (fun x => some (Value.int .i64 x)) GN.out)); (have hp1:BX.cell? ⟨w.heap.size,1,none⟩ = some (.int .u32 p.mine):=(AA K0.out.pb 1).trans rfl)) | (go_at_call 76; (refine (Dy K0.out.at_ AB p.mine).mono ?_); (rintro e w1 ⟨rfl,rfl⟩); (rw [Jz.out])) | ((with_reducible refine AO (N:=59) rfl ?_); (refine Dl (by rfl) ?_); (refine wpList_load_row rfl 27 (.tmp 5) rfl w.heap.size (by rfl) 27 _ (0,0) _ (by first | exact K0.out.pb | exact (K0.out.drewN hB _).pb) Try.underlying27 rfl (by kernel_rfl) ?_)) | (go_at_call 77; (refine (EE K0.out.at_ p (.slice Ab p.body.length cb)).mono ?_); (rintro e Ce ⟨rfl,hb⟩); (have hme:BI (L) p = true:=NU.out); (rw [hme]); (clear hme); (have K1:=Lib.hid (K0.out.sub hB hb)); (clear hb); (clear hl1 hp0 hp1)) | ((with_reducible refine gate_ (.store 4 (.tmp 62) (.const (.bool true))) rfl ?_); (refine AU (fun wz => TS w B S g #[.int .i64 p.kind,.int .u32 p.mine,.int .u32 p.AB,.int .u32 p.yours,.int .u32 p.seq,.int .u32 p.AV,.int .u32 p.stamp,.int .u32 p.echo,.complex .f64 p.zr p.zi,.slice Ab p.body.length cb] Ak Aj (fun _ => False) (L) q o true false false (.slice none 0 0) [] wz) rfl rfl ⟨_,(by have hz1:World.cell? Ce ⟨w.heap.size + 1,0,none⟩ = some _:=(AA K1.out.tb 0).trans rfl; have hz2:=AL K1.out.tb 0; first | (go_simp; done) | (go_simp; rfl)),TS.FM K1.out hB 0 _ rfl⟩ (fun BZ hF => ?_)); (have K2:=Lib.hid hF); (clear hF); (have Jd:BZ.cell? ⟨g,9,none⟩ = some (.int .u32 L.expected):=(AA K2.out.at_.blk 9).trans rfl); (have hp0:BZ.cell? ⟨w.heap.size,0,none⟩ = some (.int .i64 2):=(AA K2.out.pb 0).trans (congrArg (fun x => some (Value.int .i64 x)) GN.out)); (have Oo:BZ.cell? ⟨w.heap.size,4,none⟩ = some (.int .u32 p.seq):=(AA K2.out.pb 4).trans rfl)))
 refine wp_goto ?_
 refine Jump.goto HC.out rfl ?_
 go_wp2_with fail
 go_quiet (fail)
 rename Nat => Gj
 clear Jd hp0 Oo
 have Dt:BZ.cell? ⟨g,8,none⟩ = some (.int .u32 L.base):=(AA K2.out.at_.blk 8).trans rfl
 have VQ:BZ.cell? ⟨w.heap.size,5,none⟩ = some (.int .u32 p.AV):=(AA K2.out.pb 5).trans rfl
 have hp0:BZ.cell? ⟨w.heap.size,0,none⟩ = some (.int .i64 2):=(AA K2.out.pb 0).trans (congrArg (fun x => some (Value.int .i64 x)) GN.out)
 go_wp2_with fail
 go_quiet ((go_at_call 79; refine (FY _ _ _).mono fun _ _ hq => ⟨hq.1.trans (congrArg (fun x => Ending.returned (.int .u32 x)) HKK.out),_,hq.2.symm⟩))
 rename Nat => GR
 go_wp2_with fail
 have hSS:(BZ.drewN (Gj + GR)).drew.heap[g]? = some (.cells (row (L) q o) 131 (0,0)):=(K2.out.drewN hB (Gj + GR)).at_.blk
 have hts:=(K2.out.drewN hB (Gj + GR)).drew hB
 clear Dt VQ hp0
 exact Z6
theorem Tn {w:World} {B g:Nat} {Ak Aj S:Nat → Prop} {L:Lk} {q o:Value} (h:At w B Ak Aj g L q o) (hok:L.Ok) (hS:∀ k,holds Ak Aj g k → S k) (hB:B ≤ w.heap.size) (AB:Int) (p:Bz) (Ab:Option Addr) (cb:Nat)
  (hb0:AB ≠ 0) (hbr:0 ≤ AB ∧ AB < 4294967296) (hpr:p.NT) (hck:Bg p.kind p.mine p.AB p.yours p.seq p.AV p.stamp p.echo p.zr p.zi p.body.length = 0)  (DT:L.phase = 2) (hag:Bo L AB p.mine = 0) (hmn:BI L p = true) (hpl:p.body.length ≤ 1000) {CY:Nat → Prop} (hR:(Kd.int .u8).R 5 w B CY (.slice Ab p.body.length cb) p.body) (hkp:∀ k,CY k → ¬ S k) (kn:Nat) (hkk:IntKind.u32.wrap (p.AV - L.base) = kn) (hkd:p.kind = 2) (Jc:¬ p.seq = L.expected) (h1k:1 ≤ kn) (hks:L.sent < (kn:Int)) :
  Calls Try.prog 34 #[.pointer (some ⟨g,0,none⟩),.int .u32 AB,.agg #[.int .i64 p.kind,.int .u32 p.mine,.int .u32 p.AB,.int .u32 p.yours,.int .u32 p.seq,.int .u32 p.AV,.int .u32 p.stamp,.int .u32 p.echo,.complex .f64 p.zr p.zi,.slice Ab p.body.length cb]] w fun e w' => EW w B S g (emit_ (L) (Hy (L))) true false false [] e w':=by
 have IQ:=Lib.hid (show (((w.alloc (.cells #[.int .i64 p.kind,.int .u32 p.mine,.int .u32 p.AB,.int .u32 p.yours,.int .u32 p.seq,.int .u32 p.AV,.int .u32 p.stamp,.int .u32 p.echo,.complex .f64 p.zr p.zi,.slice Ab p.body.length cb] 27)).alloc (.cells #[.bool false,.bool false,.bool false,.slice none 0 0] 56))).heap[w.heap.size]? = some (.cells #[.int .i64 p.kind,.int .u32 p.mine,.int .u32 p.AB,.int .u32 p.yours,.int .u32 p.seq,.int .u32 p.AV,.int .u32 p.stamp,.int .u32 p.echo,.complex .f64 p.zr p.zi,.slice Ab p.body.length cb] 27 (0,0)) from (Below.heap_alloc _ _ _ (by simp)).trans (heap_alloc_new w _))
 have H:=Lib.hid h
 have OK:=Lib.hid hok
 have HS:=Lib.hid hS
 have Em:=Lib.hid hpr
 have IU:=Lib.hid hck
 have hbz:(AB == 0) = false:=by simp [hb0]
 have FH:=Lib.hid DT
 clear DT
 have Jz:=Lib.hid hag
 clear hag
 have GN:=Lib.hid hkd
 clear hkd
 clear hbr
 have NU:=Lib.hid hmn
 clear hmn
 have YJ:=Lib.hid hR
 have Oq:=Lib.hid hkp
 have VP:=Lib.hid hpl
 clear hR hkp hpl
 have HKK:=Lib.hid hkk
 clear hkk
 have hlb:=OK.out.sent
 have YK:=OK.out.queue
 have hd6:(p.seq == L.expected) = false:=by simp [Jc]
 clear Jc
 have hd7:decide ((kn:Int) ≥ 1) = true:=by simp; omega
 have hd8:decide ((kn:Int) ≤ L.sent) = false:=by simp; omega
 have hw8:IntKind.u32.wrap L.sent = L.sent:=by rw [FZ]; omega
 clear h1k
 have Q3:=Lib.hid hks
 clear hks
 clear h hok hS hpr hck hb0
 go_enter Try.func34,Try.ntmps34
 go_wp2_with fail
 refine BF 3 (fun C HC => ?_)
 go_wp2_with (first | ((with_reducible refine AO (N:=17) rfl ?_); (refine wpList_load_row rfl 27 (.tmp 5) rfl w.heap.size (by rfl) 27 #[.int .i64 p.kind,.int .u32 p.mine,.int .u32 p.AB,.int .u32 p.yours,.int .u32 p.seq,.int .u32 p.AV,.int .u32 p.stamp,.int .u32 p.echo,.complex .f64 p.zr p.zi,.slice Ab p.body.length cb] (0,0) _ IQ.out Try.underlying27 rfl (by kernel_rfl) ?_)) | (go_at_call 20; (refine (check_any _ _ _ _ _ _ _ _ _ _ _ _ _ _ Em.out.zr Em.out.zi).mono ?_); (rintro e BX ⟨rfl,hb⟩); (rw [IU.out]); (have K0:=Lib.hid (TS.start (pc:=#[.int .i64 p.kind,.int .u32 p.mine,.int .u32 p.AB,.int .u32 p.yours,.int .u32 p.seq,.int .u32 p.AV,.int .u32 p.stamp,.int .u32 p.echo,.complex .f64 p.zr p.zi,.slice Ab p.body.length cb]) H.out HS.out hB (hb.mono (by simp)))); (clear hb); (have hl1:BX.cell? ⟨g,1,none⟩ = some (.int .i64 2):=(AA K0.out.at_.blk 1).trans (congrArg (fun x => some (Value.int .i64 x)) FH.out)); (have hp0:BX.cell? ⟨w.heap.size,0,none⟩ = some (.int .i64 2):=(AA K0.out.pb 0).trans (congrArg (fun x => some (Value.int .i64 x)) GN.out)); (have hp1:BX.cell? ⟨w.heap.size,1,none⟩ = some (.int .u32 p.mine):=(AA K0.out.pb 1).trans rfl)) | (go_at_call 76; (refine (Dy K0.out.at_ AB p.mine).mono ?_); (rintro e w1 ⟨rfl,rfl⟩); (rw [Jz.out])) | ((with_reducible refine AO (N:=59) rfl ?_); (refine Dl (by rfl) ?_); (refine wpList_load_row rfl 27 (.tmp 5) rfl w.heap.size (by rfl) 27 _ (0,0) _ (by first | exact K0.out.pb | exact (K0.out.drewN hB _).pb) Try.underlying27 rfl (by kernel_rfl) ?_)) | (go_at_call 77; (refine (EE K0.out.at_ p (.slice Ab p.body.length cb)).mono ?_); (rintro e Ce ⟨rfl,hb⟩); (have hme:BI (L) p = true:=NU.out); (rw [hme]); (clear hme); (have K1:=Lib.hid (K0.out.sub hB hb)); (clear hb); (clear hl1 hp0 hp1)) | ((with_reducible refine gate_ (.store 4 (.tmp 62) (.const (.bool true))) rfl ?_); (refine AU (fun wz => TS w B S g #[.int .i64 p.kind,.int .u32 p.mine,.int .u32 p.AB,.int .u32 p.yours,.int .u32 p.seq,.int .u32 p.AV,.int .u32 p.stamp,.int .u32 p.echo,.complex .f64 p.zr p.zi,.slice Ab p.body.length cb] Ak Aj (fun _ => False) (L) q o true false false (.slice none 0 0) [] wz) rfl rfl ⟨_,(by have hz1:World.cell? Ce ⟨w.heap.size + 1,0,none⟩ = some _:=(AA K1.out.tb 0).trans rfl; have hz2:=AL K1.out.tb 0; first | (go_simp; done) | (go_simp; rfl)),TS.FM K1.out hB 0 _ rfl⟩ (fun BZ hF => ?_)); (have K2:=Lib.hid hF); (clear hF); (have Jd:BZ.cell? ⟨g,9,none⟩ = some (.int .u32 L.expected):=(AA K2.out.at_.blk 9).trans rfl); (have hp0:BZ.cell? ⟨w.heap.size,0,none⟩ = some (.int .i64 2):=(AA K2.out.pb 0).trans (congrArg (fun x => some (Value.int .i64 x)) GN.out)); (have Oo:BZ.cell? ⟨w.heap.size,4,none⟩ = some (.int .u32 p.seq):=(AA K2.out.pb 4).trans rfl)))
 refine wp_goto ?_
 refine Jump.goto HC.out rfl ?_
 go_wp2_with fail
 go_quiet (fail)
 rename Nat => Gj
 clear Jd hp0 Oo
 have Dt:BZ.cell? ⟨g,8,none⟩ = some (.int .u32 L.base):=(AA K2.out.at_.blk 8).trans rfl
 have Fa:BZ.cell? ⟨g,7,none⟩ = some (.int .i64 L.sent):=(AA K2.out.at_.blk 7).trans rfl
 have VQ:BZ.cell? ⟨w.heap.size,5,none⟩ = some (.int .u32 p.AV):=(AA K2.out.pb 5).trans rfl
 have hp0:BZ.cell? ⟨w.heap.size,0,none⟩ = some (.int .i64 2):=(AA K2.out.pb 0).trans (congrArg (fun x => some (Value.int .i64 x)) GN.out)
 go_wp2_with fail
 go_quiet ((go_at_call 79; refine (FY _ _ _).mono fun _ _ hq => ⟨hq.1.trans (congrArg (fun x => Ending.returned (.int .u32 x)) HKK.out),_,hq.2.symm⟩))
 rename Nat => GR
 go_wp2_with fail
 have hSS:(BZ.drewN (Gj + GR)).drew.heap[g]? = some (.cells (row (L) q o) 131 (0,0)):=(K2.out.drewN hB (Gj + GR)).at_.blk
 have hts:=(K2.out.drewN hB (Gj + GR)).drew hB
 clear Dt Fa VQ hp0
 exact Z6
theorem Tq {w:World} {B g:Nat} {Ak Aj S:Nat → Prop} {L:Lk} {q o:Value} (h:At w B Ak Aj g L q o) (hok:L.Ok) (hS:∀ k,holds Ak Aj g k → S k) (hB:B ≤ w.heap.size) (AB:Int) (p:Bz) (Ab:Option Addr) (cb:Nat)
  (hb0:AB ≠ 0) (hbr:0 ≤ AB ∧ AB < 4294967296) (hpr:p.NT) (hck:Bg p.kind p.mine p.AB p.yours p.seq p.AV p.stamp p.echo p.zr p.zi p.body.length = 0)  (DT:L.phase = 2) (hag:Bo L AB p.mine = 0) (hmn:BI L p = true) (hpl:p.body.length ≤ 1000) {CY:Nat → Prop} (hR:(Kd.int .u8).R 5 w B CY (.slice Ab p.body.length cb) p.body) (hkp:∀ k,CY k → ¬ S k) (kn:Nat) (hkk:IntKind.u32.wrap (p.AV - L.base) = kn) (hkd:p.kind = 2) (Jc:p.seq = L.expected) (h1k:1 ≤ kn) (hks:(kn:Int) ≤ L.sent) :
  Calls Try.prog 34 #[.pointer (some ⟨g,0,none⟩),.int .u32 AB,.agg #[.int .i64 p.kind,.int .u32 p.mine,.int .u32 p.AB,.int .u32 p.yours,.int .u32 p.seq,.int .u32 p.AV,.int .u32 p.stamp,.int .u32 p.echo,.complex .f64 p.zr p.zi,.slice Ab p.body.length cb]] w fun e w' => EW w B S g (emit_ (BL (CZ (BR L) kn)) (Hy (BL (CZ (BR L) kn)))) true false false p.body e w':=by
 have IQ:=Lib.hid (show (((w.alloc (.cells #[.int .i64 p.kind,.int .u32 p.mine,.int .u32 p.AB,.int .u32 p.yours,.int .u32 p.seq,.int .u32 p.AV,.int .u32 p.stamp,.int .u32 p.echo,.complex .f64 p.zr p.zi,.slice Ab p.body.length cb] 27)).alloc (.cells #[.bool false,.bool false,.bool false,.slice none 0 0] 56))).heap[w.heap.size]? = some (.cells #[.int .i64 p.kind,.int .u32 p.mine,.int .u32 p.AB,.int .u32 p.yours,.int .u32 p.seq,.int .u32 p.AV,.int .u32 p.stamp,.int .u32 p.echo,.complex .f64 p.zr p.zi,.slice Ab p.body.length cb] 27 (0,0)) from (Below.heap_alloc _ _ _ (by simp)).trans (heap_alloc_new w _))
 have H:=Lib.hid h
 have OK:=Lib.hid hok
 have HS:=Lib.hid hS
 have Em:=Lib.hid hpr
 have IU:=Lib.hid hck
 have hbz:(AB == 0) = false:=by simp [hb0]
 have FH:=Lib.hid DT
 clear DT
 have Jz:=Lib.hid hag
 clear hag
 have GN:=Lib.hid hkd
 clear hkd
 clear hbr
 have NU:=Lib.hid hmn
 clear hmn
 have YJ:=Lib.hid hR
 have Oq:=Lib.hid hkp
 have VP:=Lib.hid hpl
 clear hR hkp hpl
 have HKK:=Lib.hid hkk
 clear hkk
 have hlb:=OK.out.sent
 have YK:=OK.out.queue
 have hd6:(p.seq == L.expected) = true:=by simp [Jc]
 clear Jc
 have hd7:decide ((kn:Int) ≥ 1) = true:=by simp; omega
 have hd8:decide ((kn:Int) ≤ L.sent) = true:=by simp; omega
 have hw8:IntKind.u32.wrap L.sent = L.sent:=by rw [FZ]; omega
 clear h1k
 have Q3:=Lib.hid hks
 clear hks
 obtain ⟨A6,c6,hq6,GY⟩:=Kd.Gy h.queue
 subst hq6
 have YL:=Lib.hid (show kn ≤ L.queue.length by have:=Q3.out; omega)
 have hsl:=Po A6 L.queue.length c6 kn YL.out GY
 obtain ⟨A7,Pq⟩:∃ A,A = (if c6 = kn then A6 else A6.map (·.add (kn * bytes.sz))):=⟨_,rfl⟩
 rw [← Pq] at hsl
 have ay:=Lib.hid Pq
 clear Pq
 clear GY
 have hkq:=YL.out
 generalize VK:L.queue.length = qn at H hsl hkq hlb YK
 have S9:=Lib.hid VK
 clear VK
 have hc4:kn < 4294967296:=by omega
 clear h hok hS hpr hck hb0
 go_enter Try.func34,Try.ntmps34
 go_wp2_with fail
 refine BF 3 (fun C HC => ?_)
 go_wp2_with (first | ((with_reducible refine AO (N:=17) rfl ?_); (refine wpList_load_row rfl 27 (.tmp 5) rfl w.heap.size (by rfl) 27 #[.int .i64 p.kind,.int .u32 p.mine,.int .u32 p.AB,.int .u32 p.yours,.int .u32 p.seq,.int .u32 p.AV,.int .u32 p.stamp,.int .u32 p.echo,.complex .f64 p.zr p.zi,.slice Ab p.body.length cb] (0,0) _ IQ.out Try.underlying27 rfl (by kernel_rfl) ?_)) | (go_at_call 20; (refine (check_any _ _ _ _ _ _ _ _ _ _ _ _ _ _ Em.out.zr Em.out.zi).mono ?_); (rintro e BX ⟨rfl,hb⟩); (rw [IU.out]); (have K0:=Lib.hid (TS.start (pc:=#[.int .i64 p.kind,.int .u32 p.mine,.int .u32 p.AB,.int .u32 p.yours,.int .u32 p.seq,.int .u32 p.AV,.int .u32 p.stamp,.int .u32 p.echo,.complex .f64 p.zr p.zi,.slice Ab p.body.length cb]) H.out HS.out hB (hb.mono (by simp)))); (clear hb); (have hl1:BX.cell? ⟨g,1,none⟩ = some (.int .i64 2):=(AA K0.out.at_.blk 1).trans (congrArg (fun x => some (Value.int .i64 x)) FH.out)); (have hp0:BX.cell? ⟨w.heap.size,0,none⟩ = some (.int .i64 2):=(AA K0.out.pb 0).trans (congrArg (fun x => some (Value.int .i64 x)) GN.out)); (have hp1:BX.cell? ⟨w.heap.size,1,none⟩ = some (.int .u32 p.mine):=(AA K0.out.pb 1).trans rfl)) | (go_at_call 76; (refine (Dy K0.out.at_ AB p.mine).mono ?_); (rintro e w1 ⟨rfl,rfl⟩); (rw [Jz.out])) | ((with_reducible refine AO (N:=59) rfl ?_); (refine Dl (by rfl) ?_); (refine wpList_load_row rfl 27 (.tmp 5) rfl w.heap.size (by rfl) 27 _ (0,0) _ (by first | exact K0.out.pb | exact (K0.out.drewN hB _).pb) Try.underlying27 rfl (by kernel_rfl) ?_)) | (go_at_call 77; (refine (EE K0.out.at_ p (.slice Ab p.body.length cb)).mono ?_); (rintro e Ce ⟨rfl,hb⟩); (have hme:BI (L) p = true:=NU.out); (rw [hme]); (clear hme); (have K1:=Lib.hid (K0.out.sub hB hb)); (clear hb); (clear hl1 hp0 hp1)) | ((with_reducible refine gate_ (.store 4 (.tmp 62) (.const (.bool true))) rfl ?_); (refine AU (fun wz => TS w B S g #[.int .i64 p.kind,.int .u32 p.mine,.int .u32 p.AB,.int .u32 p.yours,.int .u32 p.seq,.int .u32 p.AV,.int .u32 p.stamp,.int .u32 p.echo,.complex .f64 p.zr p.zi,.slice Ab p.body.length cb] Ak Aj (fun _ => False) (L) (.slice A6 qn c6) o true false false (.slice none 0 0) [] wz) rfl rfl ⟨_,(by have hz1:World.cell? Ce ⟨w.heap.size + 1,0,none⟩ = some _:=(AA K1.out.tb 0).trans rfl; have hz2:=AL K1.out.tb 0; first | (go_simp; done) | (go_simp; rfl)),TS.FM K1.out hB 0 _ rfl⟩ (fun BZ hF => ?_)); (have K2:=Lib.hid hF); (clear hF); (have Jd:BZ.cell? ⟨g,9,none⟩ = some (.int .u32 L.expected):=(AA K2.out.at_.blk 9).trans rfl); (have hp0:BZ.cell? ⟨w.heap.size,0,none⟩ = some (.int .i64 2):=(AA K2.out.pb 0).trans (congrArg (fun x => some (Value.int .i64 x)) GN.out)); (have Oo:BZ.cell? ⟨w.heap.size,4,none⟩ = some (.int .u32 p.seq):=(AA K2.out.pb 4).trans rfl)))
 refine wp_goto ?_
 refine Jump.goto HC.out rfl ?_
 go_wp2_with fail
 go_quiet (fail)
 rename Nat => Gj
 go_wp2_with (first | ((with_reducible refine gate_ (.store 24 (.tmp 131) (.tmp 129)) rfl ?_); (refine AU (fun wz => TS w B S g #[.int .i64 p.kind,.int .u32 p.mine,.int .u32 p.AB,.int .u32 p.yours,.int .u32 p.seq,.int .u32 p.AV,.int .u32 p.stamp,.int .u32 p.echo,.complex .f64 p.zr p.zi,.slice Ab p.body.length cb] Ak Aj (fun _ => False) (BR L) (.slice A6 qn c6) o true false false (.slice none 0 0) [] wz) rfl rfl ⟨_,(by have hz1:World.cell? BZ ⟨g,9,none⟩ = some _:=(AA K2.out.at_.blk 9).trans rfl; have hz2:=AL K2.out.at_.blk 9; first | (go_simp; done) | (go_simp; rfl)),TS.ET (K2.out.drewN hB Gj) hB 9 _ rfl rfl rfl⟩ (fun DK hF => ?_)); (have K3:=Lib.hid hF); (clear hF); (clear Jd hp0 Oo); (have qY:DK.cell? ⟨w.heap.size,9,none⟩ = some (.slice Ab p.body.length cb):=(AA K3.out.pb 9).trans rfl)) | ((with_reducible refine AO (N:=134) rfl ?_); (refine Kd.BN (Kd.int .u8) (Rr:=fun x cs => cs = [Value.int .u8 x]) (w0:=w) (W:=DK) B rfl (.const (.slice none 0 0)) (.tmp 133) 22 5 (.int .u8 0) 1 rfl Try.underlying22 IJ rfl (by decide) (by decide) (.slice none 0 0) [] p.body Ab p.body.length cb (fun k => DK.heap.size ≤ k) (fun _ => False) rfl rfl (Kd.D5 _ _ _ _ _) (Kd.Bi (Kd.BJ YJ.out K3.out.kept Oq.out)).2.2 (fun _ _ hx => hx) (fun _ hf => hf.elim) (fun k hk => hk) K3.out.below (Nat.le_trans hB K3.out.kept.1) (by have:=VP.out; simp; omega) ?_); (intro v1 EL hR hbl hg _); (obtain ⟨A1,c1,hv1⟩:=Kd.Am hR); (subst hv1); (have hF:=TS.grow K3.out hB (⟨hg.os,hg.tape,hg.output,hg.size,fun k hk => hg.block k hk (by simp [Value.ownBlock])⟩:Below DK.heap.size DK EL) hR); (have K4:=Lib.hid hF.1); (have fA:=Lib.hid hF.2); (clear hF hR hbl hg); (clear qY)) | ((with_reducible refine gate_ (.store 22 (.tmp 135) (.tmp 134)) rfl ?_); (refine AU (fun wz => TS w B S g #[.int .i64 p.kind,.int .u32 p.mine,.int .u32 p.AB,.int .u32 p.yours,.int .u32 p.seq,.int .u32 p.AV,.int .u32 p.stamp,.int .u32 p.echo,.complex .f64 p.zr p.zi,.slice Ab p.body.length cb] Ak Aj (fun k => DK.heap.size ≤ k ∧ k < EL.heap.size) (BR L) (.slice A6 qn c6) o true false false ((.slice A1 ([] ++ p.body).length c1)) p.body wz) rfl rfl ⟨_,(by have hz1:World.cell? EL ⟨w.heap.size + 1,3,none⟩ = some _:=(AA K4.out.tb 3).trans rfl; have hz2:=AL K4.out.tb 3; first | (go_simp; done) | (go_simp; rfl)),K4.out.KQ hB (Steps.At.set (Steps.At.refl _ _) 3 _) (Af K4.out.tb 3 _ rfl) fA.out.1 fA.out.2⟩ (fun Ea hF => ?_)); (have K5:=Lib.hid hF); (clear hF); (have Dt:Ea.cell? ⟨g,8,none⟩ = some (.int .u32 L.base):=(AA K5.out.at_.blk 8).trans rfl); (have GY:Ea.cell? ⟨g,6,none⟩ = some ((.slice A6 qn c6)):=(AA K5.out.at_.blk 6).trans rfl); (have Fa:Ea.cell? ⟨g,7,none⟩ = some (.int .i64 L.sent):=(AA K5.out.at_.blk 7).trans rfl); (have VQ:Ea.cell? ⟨w.heap.size,5,none⟩ = some (.int .u32 p.AV):=(AA K5.out.pb 5).trans rfl); (have hp0:Ea.cell? ⟨w.heap.size,0,none⟩ = some (.int .i64 2):=(AA K5.out.pb 0).trans (congrArg (fun x => some (Value.int .i64 x)) GN.out))))
 go_quiet ((go_at_call 79; refine (FY _ _ _).mono fun _ _ hq => ⟨hq.1.trans (congrArg (fun x => Ending.returned (.int .u32 x)) HKK.out),_,hq.2.symm⟩))
 rename Nat => GR
 go_wp2_with (first | ((with_reducible refine gate_ (.store 45 (.tmp 162) (.tmp 160)) rfl ?_); (refine AU (fun wz => TS w B S g #[.int .i64 p.kind,.int .u32 p.mine,.int .u32 p.AB,.int .u32 p.yours,.int .u32 p.seq,.int .u32 p.AV,.int .u32 p.stamp,.int .u32 p.echo,.complex .f64 p.zr p.zi,.slice Ab p.body.length cb] Ak Aj (fun k => DK.heap.size ≤ k ∧ k < EL.heap.size) ({ BR L with queue:=(BR L).queue.drop kn }) (.slice A7 (qn - kn) (c6 - kn)) o true false false ((.slice A1 ([] ++ p.body).length c1)) p.body wz) rfl rfl ⟨_,(by have hz1:World.cell? Ea ⟨g,6,none⟩ = some _:=(AA K5.out.at_.blk 6).trans rfl; have hz2:=AL K5.out.at_.blk 6; first | (go_simp; done) | (go_simp; rfl)),TS.cut (K5.out.drewN hB GR) hB rfl YL.out ay.out⟩ (fun Jv hF => ?_)); (have K6:=Lib.hid hF); (clear hF); (clear Dt GY Fa VQ hp0); (have Dt:Jv.cell? ⟨g,8,none⟩ = some (.int .u32 L.base):=(AA K6.out.at_.blk 8).trans rfl); (have Fa:Jv.cell? ⟨g,7,none⟩ = some (.int .i64 L.sent):=(AA K6.out.at_.blk 7).trans rfl); (have hp0:Jv.cell? ⟨w.heap.size,0,none⟩ = some (.int .i64 2):=(AA K6.out.pb 0).trans (congrArg (fun x => some (Value.int .i64 x)) GN.out))) | ((with_reducible refine gate_ (.store 24 (.tmp 170) (.tmp 168)) rfl ?_); (have hT:TS w B S g #[.int .i64 p.kind,.int .u32 p.mine,.int .u32 p.AB,.int .u32 p.yours,.int .u32 p.seq,.int .u32 p.AV,.int .u32 p.stamp,.int .u32 p.echo,.complex .f64 p.zr p.zi,.slice Ab p.body.length cb] Ak Aj (fun k => DK.heap.size ≤ k ∧ k < EL.heap.size) ({ BR L with queue:=(BR L).queue.drop kn,base:=IntKind.u32.wrap (L.base + kn) }) (.slice A7 (qn - kn) (c6 - kn)) o true false false ((.slice A1 ([] ++ p.body).length c1)) p.body (World.setCell Jv ⟨g,8,none⟩ (.int .u32 (IntKind.u32.wrap (L.base + kn)))):=TS.ET K6.out hB 8 (.int .u32 (IntKind.u32.wrap (L.base + kn))) rfl rfl rfl); (refine AU (fun wz => TS w B S g #[.int .i64 p.kind,.int .u32 p.mine,.int .u32 p.AB,.int .u32 p.yours,.int .u32 p.seq,.int .u32 p.AV,.int .u32 p.stamp,.int .u32 p.echo,.complex .f64 p.zr p.zi,.slice Ab p.body.length cb] Ak Aj (fun k => DK.heap.size ≤ k ∧ k < EL.heap.size) ({ BR L with queue:=(BR L).queue.drop kn,base:=IntKind.u32.wrap (L.base + kn) }) (.slice A7 (qn - kn) (c6 - kn)) o true false false ((.slice A1 ([] ++ p.body).length c1)) p.body wz) rfl rfl ⟨_,(by have hz1:World.cell? Jv ⟨g,8,none⟩ = some _:=(AA K6.out.at_.blk 8).trans rfl; have hz2:=AL K6.out.at_.blk 8; first | (go_simp; done) | (go_simp; rfl)),hT⟩ (fun Jb hF => ?_)); (have K7:=Lib.hid hF); (clear hF hT); (clear Dt Fa hp0); (have Fa:Jb.cell? ⟨g,7,none⟩ = some (.int .i64 L.sent):=(AA K7.out.at_.blk 7).trans rfl); (have hp0:Jb.cell? ⟨w.heap.size,0,none⟩ = some (.int .i64 2):=(AA K7.out.pb 0).trans (congrArg (fun x => some (Value.int .i64 x)) GN.out))) | ((with_reducible refine gate_ (.store 3 (.tmp 179) (.tmp 177)) rfl ?_); (have hT:TS w B S g #[.int .i64 p.kind,.int .u32 p.mine,.int .u32 p.AB,.int .u32 p.yours,.int .u32 p.seq,.int .u32 p.AV,.int .u32 p.stamp,.int .u32 p.echo,.complex .f64 p.zr p.zi,.slice Ab p.body.length cb] Ak Aj (fun k => DK.heap.size ≤ k ∧ k < EL.heap.size) ({ BR L with queue:=(BR L).queue.drop kn,base:=IntKind.u32.wrap (L.base + kn),sent:=L.sent - kn }) (.slice A7 (qn - kn) (c6 - kn)) o true false false ((.slice A1 ([] ++ p.body).length c1)) p.body (World.setCell Jb ⟨g,7,none⟩ (.int .i64 (L.sent - kn))):=TS.ET K7.out hB 7 (.int .i64 (L.sent - kn)) rfl rfl rfl); (refine AU (fun wz => TS w B S g #[.int .i64 p.kind,.int .u32 p.mine,.int .u32 p.AB,.int .u32 p.yours,.int .u32 p.seq,.int .u32 p.AV,.int .u32 p.stamp,.int .u32 p.echo,.complex .f64 p.zr p.zi,.slice Ab p.body.length cb] Ak Aj (fun k => DK.heap.size ≤ k ∧ k < EL.heap.size) ({ BR L with queue:=(BR L).queue.drop kn,base:=IntKind.u32.wrap (L.base + kn),sent:=L.sent - kn }) (.slice A7 (qn - kn) (c6 - kn)) o true false false ((.slice A1 ([] ++ p.body).length c1)) p.body wz) rfl rfl ⟨_,(by have hz1:World.cell? Jb ⟨g,7,none⟩ = some _:=(AA K7.out.at_.blk 7).trans rfl; have hz2:=AL K7.out.at_.blk 7; first | (go_simp; done) | (go_simp; rfl)),hT⟩ (fun Qv hF => ?_)); (have K8:=Lib.hid hF); (clear hF hT); (clear Fa hp0); (have hp0:Qv.cell? ⟨w.heap.size,0,none⟩ = some (.int .i64 2):=(AA K8.out.pb 0).trans (congrArg (fun x => some (Value.int .i64 x)) GN.out))) | ((with_reducible refine gate_ (.store 3 (.tmp 182) (.const (.int .i64 0))) rfl ?_); (have hT:TS w B S g #[.int .i64 p.kind,.int .u32 p.mine,.int .u32 p.AB,.int .u32 p.yours,.int .u32 p.seq,.int .u32 p.AV,.int .u32 p.stamp,.int .u32 p.echo,.complex .f64 p.zr p.zi,.slice Ab p.body.length cb] Ak Aj (fun k => DK.heap.size ≤ k ∧ k < EL.heap.size) (CZ (BR L) kn) (.slice A7 (qn - kn) (c6 - kn)) o true false false ((.slice A1 ([] ++ p.body).length c1)) p.body (World.setCell Qv ⟨g,10,none⟩ (.int .i64 0)):=TS.ET K8.out hB 10 (.int .i64 0) rfl rfl rfl); (refine AU (fun wz => TS w B S g #[.int .i64 p.kind,.int .u32 p.mine,.int .u32 p.AB,.int .u32 p.yours,.int .u32 p.seq,.int .u32 p.AV,.int .u32 p.stamp,.int .u32 p.echo,.complex .f64 p.zr p.zi,.slice Ab p.body.length cb] Ak Aj (fun k => DK.heap.size ≤ k ∧ k < EL.heap.size) (CZ (BR L) kn) (.slice A7 (qn - kn) (c6 - kn)) o true false false ((.slice A1 ([] ++ p.body).length c1)) p.body wz) rfl rfl ⟨_,(by have hz1:World.cell? Qv ⟨g,10,none⟩ = some _:=(AA K8.out.at_.blk 10).trans rfl; have hz2:=AL K8.out.at_.blk 10; first | (go_simp; done) | (go_simp; rfl)),hT⟩ (fun ax hF => ?_)); (have K9:=Lib.hid hF); (clear hF hT); (clear hp0); (have hp0:ax.cell? ⟨w.heap.size,0,none⟩ = some (.int .i64 2):=(AA K9.out.pb 0).trans (congrArg (fun x => some (Value.int .i64 x)) GN.out))) | (go_at_call 74; (refine (MM K9.out.at_ (Jy (MN OK.out) Q3.out) (Nat.le_trans hB K9.out.kept.1)).mono ?_); (rintro e VO ⟨rfl,hE⟩); (obtain ⟨wK,fB,hF⟩:=TS.I8 K9.out hB hE); (clear hE); (have K10:=Lib.hid hF); (clear hF); (clear hp0); (have hp0:VO.cell? ⟨w.heap.size,0,none⟩ = some (.int .i64 2):=(AA K10.out.pb 0).trans (congrArg (fun x => some (Value.int .i64 x)) GN.out))))
 have hSS:VO.drew.heap[g]? = some (.cells (row (BL (CZ (BR L) kn)) (.slice A7 (qn - kn) (c6 - kn)) fB) 131 (0,0)):=K10.out.at_.blk
 have hts:=K10.out.drew hB
 clear hp0
 refine BA (n:=19) (S:=fun w' => w'.heap[g]? = some (.cells (row (BL (CZ (BR L) kn)) (.slice A7 (qn - kn) (c6 - kn)) fB) 131 (0,0))) (ds:=[18]) oN (by kernel_rfl) rfl rfl (hSS) (fun hHeld => ?_)
 generalize VO.drew = ABS at hts hHeld ⊢
 have jQ:=Lib.hid hts
 clear hts hSS
 have WA:=Lib.hid (GM (⟨3,(BL (CZ (BR L) kn)).token,(BL (CZ (BR L) kn)).AB,(BL (CZ (BR L) kn)).yours,0,(BL (CZ (BR L) kn)).expected,0,0,0,0,[]⟩:Bz) (.slice none 0 0) jQ.out.at_ (VL (Jy (MN OK.out) Q3.out)) (Nat.le_trans hB jQ.out.kept.1) (CY:=fun _ => False) (DY.2 ⟨_,rfl,Kd.D5 _ _ _ _ _⟩) (fun _ hk => hk.elim))
 refine pu 0 188 oO ?_
 refine pu 1 189 oP ?_
 refine pu 2 190 oQ ?_
 refine pu 3 191 oU ?_
 refine tk 4 192 oV hHeld ?_ (hf:=by intro w' s0; have hc2:w'.cell? ⟨g,2,none⟩ = some (.int .u32 (BL (CZ (BR L) kn)).token):=(AA s0 2).trans rfl; clear s0; go_simp; with_reducible rfl)
 refine pu 5 193 oW ?_
 refine pu 6 194 oZ ?_
 refine pu 7 195 og ?_
 refine tk 8 196 oh hHeld ?_ (hf:=by intro w' s0; have hc3:w'.cell? ⟨g,3,none⟩ = some (.int .u32 (BL (CZ (BR L) kn)).AB):=(AA s0 3).trans rfl; clear s0; go_simp; with_reducible rfl)
 refine pu 9 197 ou ?_
 refine pu 10 198 oz ?_
 refine pu 11 199 o5 ?_
 refine tk 12 200 o6 hHeld ?_ (hf:=by intro w' s0; have hc4:w'.cell? ⟨g,4,none⟩ = some (.int .u32 (BL (CZ (BR L) kn)).yours):=(AA s0 4).trans rfl; clear s0; go_simp; with_reducible rfl)
 refine pu 13 201 o7 ?_
 refine pu 14 202 o8 ?_
 refine pu 15 203 o9 ?_
 refine tk 16 204 pF hHeld ?_ (hf:=by intro w' s0; have Bh:w'.cell? ⟨g,9,none⟩ = some (.int .u32 (BL (CZ (BR L) kn)).expected):=(AA s0 9).trans rfl; clear s0; go_simp; with_reducible rfl)
 refine pu 17 205 pG ?_ (hy:=by intro w'; have CP:=Try.underlying27; go_simp; rfl)
 refine la 18 (some 206) pI fun K hK => ?_
 refine BH Try.func80 (by kernel_rfl) rfl #[.pointer (some ⟨g,0,none⟩),.agg #[.int .i64 3,.int .u32 (BL (CZ (BR L) kn)).token,.int .u32 (BL (CZ (BR L) kn)).AB,.int .u32 (BL (CZ (BR L) kn)).yours,.int .u32 0,.int .u32 (BL (CZ (BR L) kn)).expected,.int .u32 0,.int .u32 0,.complex .f64 0 0,.slice none 0 0]] (by rfl) rfl rfl (by (try simp only [List.map_toArray,List.map_cons,List.map_nil]); first | done | rfl) ?_
 refine WA.out.mono ?_
 rintro e ABT ⟨rfl,hE⟩
 obtain ⟨wL,ABU,hF⟩:=TS.I8 jQ.out hB hE
 have YM:=Lib.hid hF
 clear hE hF
 refine ⟨_,rfl,?_⟩
 refine hK.out _ _ ?_
 clear hK K
 refine BG (by kernel_rfl) ?_
 go_wp2_with fail
 refine wp_label ?_
 go_wp2_with (first | ((with_reducible refine AO (N:=207) rfl ?_); (refine wpList_load_row rfl 56 (.tmp 6) rfl (w.heap.size + 1) (by rfl) 56 _ (0,0) _ (by first | exact YM.out.tb | exact (YM.out.drewN hB _).tb) Try.underlying56 rfl (by kernel_rfl) ?_)) | ((with_reducible refine gate_ (.store 56 (.tmp 6) (.tmp 207)) rfl ?_); (refine Ad rfl rfl 56 (.tmp 6) (.tmp 207) rfl (w.heap.size + 1) _ rfl rfl 56 _ (by first | exact YM.out.tb | exact (YM.out.drewN hB _).tb) (by kernel_rfl) rfl (by kernel_rfl) ?_); (intro ABV Hg Ey); (have hF:=TS.KQ (by first | exact YM.out | exact YM.out.drewN hB _ | exact YM.out.drew hB) hB Ey Hg (by first | exact YM.out.Fp | exact (YM.out.drewN hB _).Fp) (by first | exact YM.out.okb | exact (YM.out.drewN hB _).okb)); (have K13:=Lib.hid hF); (clear hF Hg Ey)))
 refine Jump.ret ?_
 refine bodyPost_ret ?_ rfl (K13.out.ends)
 exact Az Try.results34 _ _ rfl rfl (run_loadVar_row (P:=Try.prog) _ (w.heap.size + 1) 56 56 _ (0,0) _ K13.out.tb Try.underlying56 rfl (by kernel_rfl))
theorem Z5 {p:Prop} (h:p:=by
 refine BA (n:=19) (S:=fun w' => w'.heap[g]? = some (.cells (row (BR L) q o) 131 (0,0))) (ds:=[18]) oN (by kernel_rfl) rfl rfl (hSS) (fun hHeld => ?_)
 generalize (Ea.drewN GR).drew = AEv at hts hHeld ⊢
 have yj:=Lib.hid hts
 clear hts hSS
 have WA:=Lib.hid (GM (⟨3,(BR L).token,(BR L).AB,(BR L).yours,0,(BR L).expected,0,0,0,0,[]⟩:Bz) (.slice none 0 0) yj.out.at_ (MN OK.out) (Nat.le_trans hB yj.out.kept.1) (CY:=fun _ => False) (DY.2 ⟨_,rfl,Kd.D5 _ _ _ _ _⟩) (fun _ hk => hk.elim))
 refine pu 0 188 oO ?_
 refine pu 1 189 oP ?_
 refine pu 2 190 oQ ?_
 refine pu 3 191 oU ?_
 refine tk 4 192 oV hHeld ?_ (hf:=by intro w' s0; have hc2:w'.cell? ⟨g,2,none⟩ = some (.int .u32 (BR L).token):=(AA s0 2).trans rfl; clear s0; go_simp; with_reducible rfl)
 refine pu 5 193 oW ?_
 refine pu 6 194 oZ ?_
 refine pu 7 195 og ?_
 refine tk 8 196 oh hHeld ?_ (hf:=by intro w' s0; have hc3:w'.cell? ⟨g,3,none⟩ = some (.int .u32 (BR L).AB):=(AA s0 3).trans rfl; clear s0; go_simp; with_reducible rfl)
 refine pu 9 197 ou ?_
 refine pu 10 198 oz ?_
 refine pu 11 199 o5 ?_
 refine tk 12 200 o6 hHeld ?_ (hf:=by intro w' s0; have hc4:w'.cell? ⟨g,4,none⟩ = some (.int .u32 (BR L).yours):=(AA s0 4).trans rfl; clear s0; go_simp; with_reducible rfl)
 refine pu 13 201 o7 ?_
 refine pu 14 202 o8 ?_
 refine pu 15 203 o9 ?_
 refine tk 16 204 pF hHeld ?_ (hf:=by intro w' s0; have Bh:w'.cell? ⟨g,9,none⟩ = some (.int .u32 (BR L).expected):=(AA s0 9).trans rfl; clear s0; go_simp; with_reducible rfl)
 refine pu 17 205 pG ?_ (hy:=by intro w'; have CP:=Try.underlying27; go_simp; rfl)
 refine la 18 (some 206) pI fun K hK => ?_
 refine BH Try.func80 (by kernel_rfl) rfl #[.pointer (some ⟨g,0,none⟩),.agg #[.int .i64 3,.int .u32 (BR L).token,.int .u32 (BR L).AB,.int .u32 (BR L).yours,.int .u32 0,.int .u32 (BR L).expected,.int .u32 0,.int .u32 0,.complex .f64 0 0,.slice none 0 0]] (by rfl) rfl rfl (by (try simp only [List.map_toArray,List.map_cons,List.map_nil]); first | done | rfl) ?_
 refine WA.out.mono ?_
 rintro e Jb ⟨rfl,hE⟩
 obtain ⟨TY,YF,hF⟩:=TS.I8 yj.out hB hE
 have K7:=Lib.hid hF
 clear hE hF
 refine ⟨_,rfl,?_⟩
 refine hK.out _ _ ?_
 clear hK K
 refine BG (by kernel_rfl) ?_
 go_wp2_with fail
 refine wp_label ?_
 go_wp2_with (first | ((with_reducible refine AO (N:=207) rfl ?_); (refine wpList_load_row rfl 56 (.tmp 6) rfl (w.heap.size + 1) (by rfl) 56 _ (0,0) _ (by first | exact K7.out.tb | exact (K7.out.drewN hB _).tb) Try.underlying56 rfl (by kernel_rfl) ?_)) | ((with_reducible refine gate_ (.store 56 (.tmp 6) (.tmp 207)) rfl ?_); (refine Ad rfl rfl 56 (.tmp 6) (.tmp 207) rfl (w.heap.size + 1) _ rfl rfl 56 _ (by first | exact K7.out.tb | exact (K7.out.drewN hB _).tb) (by kernel_rfl) rfl (by kernel_rfl) ?_); (intro Qv Hg Ey); (have hF:=TS.KQ (by first | exact K7.out | exact K7.out.drewN hB _ | exact K7.out.drew hB) hB Ey Hg (by first | exact K7.out.Fp | exact (K7.out.drewN hB _).Fp) (by first | exact K7.out.okb | exact (K7.out.drewN hB _).okb)); (have K8:=Lib.hid hF); (clear hF Hg Ey)))
 refine Jump.ret ?_
 refine bodyPost_ret ?_ rfl (K8.out.ends)
 exact Az Try.results34 _ _ rfl rfl (run_loadVar_row (P:=Try.prog) _ (w.heap.size + 1) 56 56 _ (0,0) _ K8.out.tb Try.underlying56 rfl (by kernel_rfl))):p:=h
theorem Tt {w:World} {B g:Nat} {Ak Aj S:Nat → Prop} {L:Lk} {q o:Value} (h:At w B Ak Aj g L q o) (hok:L.Ok) (hS:∀ k,holds Ak Aj g k → S k) (hB:B ≤ w.heap.size) (AB:Int) (p:Bz) (Ab:Option Addr) (cb:Nat)
  (hb0:AB ≠ 0) (hbr:0 ≤ AB ∧ AB < 4294967296) (hpr:p.NT) (hck:Bg p.kind p.mine p.AB p.yours p.seq p.AV p.stamp p.echo p.zr p.zi p.body.length = 0)  (DT:L.phase = 2) (hag:Bo L AB p.mine = 0) (hmn:BI L p = true) (hpl:p.body.length ≤ 1000) {CY:Nat → Prop} (hR:(Kd.int .u8).R 5 w B CY (.slice Ab p.body.length cb) p.body) (hkp:∀ k,CY k → ¬ S k) (kn:Nat) (hkk:IntKind.u32.wrap (p.AV - L.base) = kn) (hkd:p.kind = 2) (Jc:p.seq = L.expected) (h1k:kn = 0) :
  Calls Try.prog 34 #[.pointer (some ⟨g,0,none⟩),.int .u32 AB,.agg #[.int .i64 p.kind,.int .u32 p.mine,.int .u32 p.AB,.int .u32 p.yours,.int .u32 p.seq,.int .u32 p.AV,.int .u32 p.stamp,.int .u32 p.echo,.complex .f64 p.zr p.zi,.slice Ab p.body.length cb]] w fun e w' => EW w B S g (emit_ (BR L) (Hy (BR L))) true false false p.body e w':=by
 have IQ:=Lib.hid (show (((w.alloc (.cells #[.int .i64 p.kind,.int .u32 p.mine,.int .u32 p.AB,.int .u32 p.yours,.int .u32 p.seq,.int .u32 p.AV,.int .u32 p.stamp,.int .u32 p.echo,.complex .f64 p.zr p.zi,.slice Ab p.body.length cb] 27)).alloc (.cells #[.bool false,.bool false,.bool false,.slice none 0 0] 56))).heap[w.heap.size]? = some (.cells #[.int .i64 p.kind,.int .u32 p.mine,.int .u32 p.AB,.int .u32 p.yours,.int .u32 p.seq,.int .u32 p.AV,.int .u32 p.stamp,.int .u32 p.echo,.complex .f64 p.zr p.zi,.slice Ab p.body.length cb] 27 (0,0)) from (Below.heap_alloc _ _ _ (by simp)).trans (heap_alloc_new w _))
 have H:=Lib.hid h
 have OK:=Lib.hid hok
 have HS:=Lib.hid hS
 have Em:=Lib.hid hpr
 have IU:=Lib.hid hck
 have hbz:(AB == 0) = false:=by simp [hb0]
 have FH:=Lib.hid DT
 clear DT
 have Jz:=Lib.hid hag
 clear hag
 have GN:=Lib.hid hkd
 clear hkd
 clear hbr
 have NU:=Lib.hid hmn
 clear hmn
 have YJ:=Lib.hid hR
 have Oq:=Lib.hid hkp
 have VP:=Lib.hid hpl
 clear hR hkp hpl
 have HKK:=Lib.hid hkk
 clear hkk
 have hlb:=OK.out.sent
 have YK:=OK.out.queue
 have hd6:(p.seq == L.expected) = true:=by simp [Jc]
 clear Jc
 have hd7:decide ((kn:Int) ≥ 1) = false:=by simp; omega
 clear h1k
 clear h hok hS hpr hck hb0
 go_enter Try.func34,Try.ntmps34
 go_wp2_with fail
 refine BF 3 (fun C HC => ?_)
 go_wp2_with (first | ((with_reducible refine AO (N:=17) rfl ?_); (refine wpList_load_row rfl 27 (.tmp 5) rfl w.heap.size (by rfl) 27 #[.int .i64 p.kind,.int .u32 p.mine,.int .u32 p.AB,.int .u32 p.yours,.int .u32 p.seq,.int .u32 p.AV,.int .u32 p.stamp,.int .u32 p.echo,.complex .f64 p.zr p.zi,.slice Ab p.body.length cb] (0,0) _ IQ.out Try.underlying27 rfl (by kernel_rfl) ?_)) | (go_at_call 20; (refine (check_any _ _ _ _ _ _ _ _ _ _ _ _ _ _ Em.out.zr Em.out.zi).mono ?_); (rintro e BX ⟨rfl,hb⟩); (rw [IU.out]); (have K0:=Lib.hid (TS.start (pc:=#[.int .i64 p.kind,.int .u32 p.mine,.int .u32 p.AB,.int .u32 p.yours,.int .u32 p.seq,.int .u32 p.AV,.int .u32 p.stamp,.int .u32 p.echo,.complex .f64 p.zr p.zi,.slice Ab p.body.length cb]) H.out HS.out hB (hb.mono (by simp)))); (clear hb); (have hl1:BX.cell? ⟨g,1,none⟩ = some (.int .i64 2):=(AA K0.out.at_.blk 1).trans (congrArg (fun x => some (Value.int .i64 x)) FH.out)); (have hp0:BX.cell? ⟨w.heap.size,0,none⟩ = some (.int .i64 2):=(AA K0.out.pb 0).trans (congrArg (fun x => some (Value.int .i64 x)) GN.out)); (have hp1:BX.cell? ⟨w.heap.size,1,none⟩ = some (.int .u32 p.mine):=(AA K0.out.pb 1).trans rfl)) | (go_at_call 76; (refine (Dy K0.out.at_ AB p.mine).mono ?_); (rintro e w1 ⟨rfl,rfl⟩); (rw [Jz.out])) | ((with_reducible refine AO (N:=59) rfl ?_); (refine Dl (by rfl) ?_); (refine wpList_load_row rfl 27 (.tmp 5) rfl w.heap.size (by rfl) 27 _ (0,0) _ (by first | exact K0.out.pb | exact (K0.out.drewN hB _).pb) Try.underlying27 rfl (by kernel_rfl) ?_)) | (go_at_call 77; (refine (EE K0.out.at_ p (.slice Ab p.body.length cb)).mono ?_); (rintro e Ce ⟨rfl,hb⟩); (have hme:BI (L) p = true:=NU.out); (rw [hme]); (clear hme); (have K1:=Lib.hid (K0.out.sub hB hb)); (clear hb); (clear hl1 hp0 hp1)) | ((with_reducible refine gate_ (.store 4 (.tmp 62) (.const (.bool true))) rfl ?_); (refine AU (fun wz => TS w B S g #[.int .i64 p.kind,.int .u32 p.mine,.int .u32 p.AB,.int .u32 p.yours,.int .u32 p.seq,.int .u32 p.AV,.int .u32 p.stamp,.int .u32 p.echo,.complex .f64 p.zr p.zi,.slice Ab p.body.length cb] Ak Aj (fun _ => False) (L) q o true false false (.slice none 0 0) [] wz) rfl rfl ⟨_,(by have hz1:World.cell? Ce ⟨w.heap.size + 1,0,none⟩ = some _:=(AA K1.out.tb 0).trans rfl; have hz2:=AL K1.out.tb 0; first | (go_simp; done) | (go_simp; rfl)),TS.FM K1.out hB 0 _ rfl⟩ (fun BZ hF => ?_)); (have K2:=Lib.hid hF); (clear hF); (have Jd:BZ.cell? ⟨g,9,none⟩ = some (.int .u32 L.expected):=(AA K2.out.at_.blk 9).trans rfl); (have hp0:BZ.cell? ⟨w.heap.size,0,none⟩ = some (.int .i64 2):=(AA K2.out.pb 0).trans (congrArg (fun x => some (Value.int .i64 x)) GN.out)); (have Oo:BZ.cell? ⟨w.heap.size,4,none⟩ = some (.int .u32 p.seq):=(AA K2.out.pb 4).trans rfl)))
 refine wp_goto ?_
 refine Jump.goto HC.out rfl ?_
 go_wp2_with fail
 go_quiet (fail)
 rename Nat => Gj
 go_wp2_with (first | ((with_reducible refine gate_ (.store 24 (.tmp 131) (.tmp 129)) rfl ?_); (refine AU (fun wz => TS w B S g #[.int .i64 p.kind,.int .u32 p.mine,.int .u32 p.AB,.int .u32 p.yours,.int .u32 p.seq,.int .u32 p.AV,.int .u32 p.stamp,.int .u32 p.echo,.complex .f64 p.zr p.zi,.slice Ab p.body.length cb] Ak Aj (fun _ => False) (BR L) q o true false false (.slice none 0 0) [] wz) rfl rfl ⟨_,(by have hz1:World.cell? BZ ⟨g,9,none⟩ = some _:=(AA K2.out.at_.blk 9).trans rfl; have hz2:=AL K2.out.at_.blk 9; first | (go_simp; done) | (go_simp; rfl)),TS.ET (K2.out.drewN hB Gj) hB 9 _ rfl rfl rfl⟩ (fun DK hF => ?_)); (have K3:=Lib.hid hF); (clear hF); (clear Jd hp0 Oo); (have qY:DK.cell? ⟨w.heap.size,9,none⟩ = some (.slice Ab p.body.length cb):=(AA K3.out.pb 9).trans rfl)) | ((with_reducible refine AO (N:=134) rfl ?_); (refine Kd.BN (Kd.int .u8) (Rr:=fun x cs => cs = [Value.int .u8 x]) (w0:=w) (W:=DK) B rfl (.const (.slice none 0 0)) (.tmp 133) 22 5 (.int .u8 0) 1 rfl Try.underlying22 IJ rfl (by decide) (by decide) (.slice none 0 0) [] p.body Ab p.body.length cb (fun k => DK.heap.size ≤ k) (fun _ => False) rfl rfl (Kd.D5 _ _ _ _ _) (Kd.Bi (Kd.BJ YJ.out K3.out.kept Oq.out)).2.2 (fun _ _ hx => hx) (fun _ hf => hf.elim) (fun k hk => hk) K3.out.below (Nat.le_trans hB K3.out.kept.1) (by have:=VP.out; simp; omega) ?_); (intro v1 EL hR hbl hg _); (obtain ⟨A1,c1,hv1⟩:=Kd.Am hR); (subst hv1); (have hF:=TS.grow K3.out hB (⟨hg.os,hg.tape,hg.output,hg.size,fun k hk => hg.block k hk (by simp [Value.ownBlock])⟩:Below DK.heap.size DK EL) hR); (have K4:=Lib.hid hF.1); (have fA:=Lib.hid hF.2); (clear hF hR hbl hg); (clear qY)) | ((with_reducible refine gate_ (.store 22 (.tmp 135) (.tmp 134)) rfl ?_); (refine AU (fun wz => TS w B S g #[.int .i64 p.kind,.int .u32 p.mine,.int .u32 p.AB,.int .u32 p.yours,.int .u32 p.seq,.int .u32 p.AV,.int .u32 p.stamp,.int .u32 p.echo,.complex .f64 p.zr p.zi,.slice Ab p.body.length cb] Ak Aj (fun k => DK.heap.size ≤ k ∧ k < EL.heap.size) (BR L) q o true false false ((.slice A1 ([] ++ p.body).length c1)) p.body wz) rfl rfl ⟨_,(by have hz1:World.cell? EL ⟨w.heap.size + 1,3,none⟩ = some _:=(AA K4.out.tb 3).trans rfl; have hz2:=AL K4.out.tb 3; first | (go_simp; done) | (go_simp; rfl)),K4.out.KQ hB (Steps.At.set (Steps.At.refl _ _) 3 _) (Af K4.out.tb 3 _ rfl) fA.out.1 fA.out.2⟩ (fun Ea hF => ?_)); (have K5:=Lib.hid hF); (clear hF); (have Dt:Ea.cell? ⟨g,8,none⟩ = some (.int .u32 L.base):=(AA K5.out.at_.blk 8).trans rfl); (have VQ:Ea.cell? ⟨w.heap.size,5,none⟩ = some (.int .u32 p.AV):=(AA K5.out.pb 5).trans rfl); (have hp0:Ea.cell? ⟨w.heap.size,0,none⟩ = some (.int .i64 2):=(AA K5.out.pb 0).trans (congrArg (fun x => some (Value.int .i64 x)) GN.out))))
 go_quiet ((go_at_call 79; refine (FY _ _ _).mono fun _ _ hq => ⟨hq.1.trans (congrArg (fun x => Ending.returned (.int .u32 x)) HKK.out),_,hq.2.symm⟩))
 rename Nat => GR
 go_wp2_with fail
 have hSS:(Ea.drewN GR).drew.heap[g]? = some (.cells (row (BR L) q o) 131 (0,0)):=(K5.out.drewN hB GR).at_.blk
 have hts:=(K5.out.drewN hB GR).drew hB
 clear Dt VQ hp0
 exact Z5
theorem Tu {w:World} {B g:Nat} {Ak Aj S:Nat → Prop} {L:Lk} {q o:Value} (h:At w B Ak Aj g L q o) (hok:L.Ok) (hS:∀ k,holds Ak Aj g k → S k) (hB:B ≤ w.heap.size) (AB:Int) (p:Bz) (Ab:Option Addr) (cb:Nat)
  (hb0:AB ≠ 0) (hbr:0 ≤ AB ∧ AB < 4294967296) (hpr:p.NT) (hck:Bg p.kind p.mine p.AB p.yours p.seq p.AV p.stamp p.echo p.zr p.zi p.body.length = 0)  (DT:L.phase = 2) (hag:Bo L AB p.mine = 0) (hmn:BI L p = true) (hpl:p.body.length ≤ 1000) {CY:Nat → Prop} (hR:(Kd.int .u8).R 5 w B CY (.slice Ab p.body.length cb) p.body) (hkp:∀ k,CY k → ¬ S k) (kn:Nat) (hkk:IntKind.u32.wrap (p.AV - L.base) = kn) (hkd:p.kind = 2) (Jc:p.seq = L.expected) (h1k:1 ≤ kn) (hks:L.sent < (kn:Int)) :
  Calls Try.prog 34 #[.pointer (some ⟨g,0,none⟩),.int .u32 AB,.agg #[.int .i64 p.kind,.int .u32 p.mine,.int .u32 p.AB,.int .u32 p.yours,.int .u32 p.seq,.int .u32 p.AV,.int .u32 p.stamp,.int .u32 p.echo,.complex .f64 p.zr p.zi,.slice Ab p.body.length cb]] w fun e w' => EW w B S g (emit_ (BR L) (Hy (BR L))) true false false p.body e w':=by
 have IQ:=Lib.hid (show (((w.alloc (.cells #[.int .i64 p.kind,.int .u32 p.mine,.int .u32 p.AB,.int .u32 p.yours,.int .u32 p.seq,.int .u32 p.AV,.int .u32 p.stamp,.int .u32 p.echo,.complex .f64 p.zr p.zi,.slice Ab p.body.length cb] 27)).alloc (.cells #[.bool false,.bool false,.bool false,.slice none 0 0] 56))).heap[w.heap.size]? = some (.cells #[.int .i64 p.kind,.int .u32 p.mine,.int .u32 p.AB,.int .u32 p.yours,.int .u32 p.seq,.int .u32 p.AV,.int .u32 p.stamp,.int .u32 p.echo,.complex .f64 p.zr p.zi,.slice Ab p.body.length cb] 27 (0,0)) from (Below.heap_alloc _ _ _ (by simp)).trans (heap_alloc_new w _))
 have H:=Lib.hid h
 have OK:=Lib.hid hok
 have HS:=Lib.hid hS
 have Em:=Lib.hid hpr
 have IU:=Lib.hid hck
 have hbz:(AB == 0) = false:=by simp [hb0]
 have FH:=Lib.hid DT
 clear DT
 have Jz:=Lib.hid hag
 clear hag
 have GN:=Lib.hid hkd
 clear hkd
 clear hbr
 have NU:=Lib.hid hmn
 clear hmn
 have YJ:=Lib.hid hR
 have Oq:=Lib.hid hkp
 have VP:=Lib.hid hpl
 clear hR hkp hpl
 have HKK:=Lib.hid hkk
 clear hkk
 have hlb:=OK.out.sent
 have YK:=OK.out.queue
 have hd6:(p.seq == L.expected) = true:=by simp [Jc]
 clear Jc
 have hd7:decide ((kn:Int) ≥ 1) = true:=by simp; omega
 have hd8:decide ((kn:Int) ≤ L.sent) = false:=by simp; omega
 have hw8:IntKind.u32.wrap L.sent = L.sent:=by rw [FZ]; omega
 clear h1k
 have Q3:=Lib.hid hks
 clear hks
 clear h hok hS hpr hck hb0
 go_enter Try.func34,Try.ntmps34
 go_wp2_with fail
 refine BF 3 (fun C HC => ?_)
 go_wp2_with (first | ((with_reducible refine AO (N:=17) rfl ?_); (refine wpList_load_row rfl 27 (.tmp 5) rfl w.heap.size (by rfl) 27 #[.int .i64 p.kind,.int .u32 p.mine,.int .u32 p.AB,.int .u32 p.yours,.int .u32 p.seq,.int .u32 p.AV,.int .u32 p.stamp,.int .u32 p.echo,.complex .f64 p.zr p.zi,.slice Ab p.body.length cb] (0,0) _ IQ.out Try.underlying27 rfl (by kernel_rfl) ?_)) | (go_at_call 20; (refine (check_any _ _ _ _ _ _ _ _ _ _ _ _ _ _ Em.out.zr Em.out.zi).mono ?_); (rintro e BX ⟨rfl,hb⟩); (rw [IU.out]); (have K0:=Lib.hid (TS.start (pc:=#[.int .i64 p.kind,.int .u32 p.mine,.int .u32 p.AB,.int .u32 p.yours,.int .u32 p.seq,.int .u32 p.AV,.int .u32 p.stamp,.int .u32 p.echo,.complex .f64 p.zr p.zi,.slice Ab p.body.length cb]) H.out HS.out hB (hb.mono (by simp)))); (clear hb); (have hl1:BX.cell? ⟨g,1,none⟩ = some (.int .i64 2):=(AA K0.out.at_.blk 1).trans (congrArg (fun x => some (Value.int .i64 x)) FH.out)); (have hp0:BX.cell? ⟨w.heap.size,0,none⟩ = some (.int .i64 2):=(AA K0.out.pb 0).trans (congrArg (fun x => some (Value.int .i64 x)) GN.out)); (have hp1:BX.cell? ⟨w.heap.size,1,none⟩ = some (.int .u32 p.mine):=(AA K0.out.pb 1).trans rfl)) | (go_at_call 76; (refine (Dy K0.out.at_ AB p.mine).mono ?_); (rintro e w1 ⟨rfl,rfl⟩); (rw [Jz.out])) | ((with_reducible refine AO (N:=59) rfl ?_); (refine Dl (by rfl) ?_); (refine wpList_load_row rfl 27 (.tmp 5) rfl w.heap.size (by rfl) 27 _ (0,0) _ (by first | exact K0.out.pb | exact (K0.out.drewN hB _).pb) Try.underlying27 rfl (by kernel_rfl) ?_)) | (go_at_call 77; (refine (EE K0.out.at_ p (.slice Ab p.body.length cb)).mono ?_); (rintro e Ce ⟨rfl,hb⟩); (have hme:BI (L) p = true:=NU.out); (rw [hme]); (clear hme); (have K1:=Lib.hid (K0.out.sub hB hb)); (clear hb); (clear hl1 hp0 hp1)) | ((with_reducible refine gate_ (.store 4 (.tmp 62) (.const (.bool true))) rfl ?_); (refine AU (fun wz => TS w B S g #[.int .i64 p.kind,.int .u32 p.mine,.int .u32 p.AB,.int .u32 p.yours,.int .u32 p.seq,.int .u32 p.AV,.int .u32 p.stamp,.int .u32 p.echo,.complex .f64 p.zr p.zi,.slice Ab p.body.length cb] Ak Aj (fun _ => False) (L) q o true false false (.slice none 0 0) [] wz) rfl rfl ⟨_,(by have hz1:World.cell? Ce ⟨w.heap.size + 1,0,none⟩ = some _:=(AA K1.out.tb 0).trans rfl; have hz2:=AL K1.out.tb 0; first | (go_simp; done) | (go_simp; rfl)),TS.FM K1.out hB 0 _ rfl⟩ (fun BZ hF => ?_)); (have K2:=Lib.hid hF); (clear hF); (have Jd:BZ.cell? ⟨g,9,none⟩ = some (.int .u32 L.expected):=(AA K2.out.at_.blk 9).trans rfl); (have hp0:BZ.cell? ⟨w.heap.size,0,none⟩ = some (.int .i64 2):=(AA K2.out.pb 0).trans (congrArg (fun x => some (Value.int .i64 x)) GN.out)); (have Oo:BZ.cell? ⟨w.heap.size,4,none⟩ = some (.int .u32 p.seq):=(AA K2.out.pb 4).trans rfl)))
 refine wp_goto ?_
 refine Jump.goto HC.out rfl ?_
 go_wp2_with fail
 go_quiet (fail)
 rename Nat => Gj
 go_wp2_with (first | ((with_reducible refine gate_ (.store 24 (.tmp 131) (.tmp 129)) rfl ?_); (refine AU (fun wz => TS w B S g #[.int .i64 p.kind,.int .u32 p.mine,.int .u32 p.AB,.int .u32 p.yours,.int .u32 p.seq,.int .u32 p.AV,.int .u32 p.stamp,.int .u32 p.echo,.complex .f64 p.zr p.zi,.slice Ab p.body.length cb] Ak Aj (fun _ => False) (BR L) q o true false false (.slice none 0 0) [] wz) rfl rfl ⟨_,(by have hz1:World.cell? BZ ⟨g,9,none⟩ = some _:=(AA K2.out.at_.blk 9).trans rfl; have hz2:=AL K2.out.at_.blk 9; first | (go_simp; done) | (go_simp; rfl)),TS.ET (K2.out.drewN hB Gj) hB 9 _ rfl rfl rfl⟩ (fun DK hF => ?_)); (have K3:=Lib.hid hF); (clear hF); (clear Jd hp0 Oo); (have qY:DK.cell? ⟨w.heap.size,9,none⟩ = some (.slice Ab p.body.length cb):=(AA K3.out.pb 9).trans rfl)) | ((with_reducible refine AO (N:=134) rfl ?_); (refine Kd.BN (Kd.int .u8) (Rr:=fun x cs => cs = [Value.int .u8 x]) (w0:=w) (W:=DK) B rfl (.const (.slice none 0 0)) (.tmp 133) 22 5 (.int .u8 0) 1 rfl Try.underlying22 IJ rfl (by decide) (by decide) (.slice none 0 0) [] p.body Ab p.body.length cb (fun k => DK.heap.size ≤ k) (fun _ => False) rfl rfl (Kd.D5 _ _ _ _ _) (Kd.Bi (Kd.BJ YJ.out K3.out.kept Oq.out)).2.2 (fun _ _ hx => hx) (fun _ hf => hf.elim) (fun k hk => hk) K3.out.below (Nat.le_trans hB K3.out.kept.1) (by have:=VP.out; simp; omega) ?_); (intro v1 EL hR hbl hg _); (obtain ⟨A1,c1,hv1⟩:=Kd.Am hR); (subst hv1); (have hF:=TS.grow K3.out hB (⟨hg.os,hg.tape,hg.output,hg.size,fun k hk => hg.block k hk (by simp [Value.ownBlock])⟩:Below DK.heap.size DK EL) hR); (have K4:=Lib.hid hF.1); (have fA:=Lib.hid hF.2); (clear hF hR hbl hg); (clear qY)) | ((with_reducible refine gate_ (.store 22 (.tmp 135) (.tmp 134)) rfl ?_); (refine AU (fun wz => TS w B S g #[.int .i64 p.kind,.int .u32 p.mine,.int .u32 p.AB,.int .u32 p.yours,.int .u32 p.seq,.int .u32 p.AV,.int .u32 p.stamp,.int .u32 p.echo,.complex .f64 p.zr p.zi,.slice Ab p.body.length cb] Ak Aj (fun k => DK.heap.size ≤ k ∧ k < EL.heap.size) (BR L) q o true false false ((.slice A1 ([] ++ p.body).length c1)) p.body wz) rfl rfl ⟨_,(by have hz1:World.cell? EL ⟨w.heap.size + 1,3,none⟩ = some _:=(AA K4.out.tb 3).trans rfl; have hz2:=AL K4.out.tb 3; first | (go_simp; done) | (go_simp; rfl)),K4.out.KQ hB (Steps.At.set (Steps.At.refl _ _) 3 _) (Af K4.out.tb 3 _ rfl) fA.out.1 fA.out.2⟩ (fun Ea hF => ?_)); (have K5:=Lib.hid hF); (clear hF); (have Dt:Ea.cell? ⟨g,8,none⟩ = some (.int .u32 L.base):=(AA K5.out.at_.blk 8).trans rfl); (have Fa:Ea.cell? ⟨g,7,none⟩ = some (.int .i64 L.sent):=(AA K5.out.at_.blk 7).trans rfl); (have VQ:Ea.cell? ⟨w.heap.size,5,none⟩ = some (.int .u32 p.AV):=(AA K5.out.pb 5).trans rfl); (have hp0:Ea.cell? ⟨w.heap.size,0,none⟩ = some (.int .i64 2):=(AA K5.out.pb 0).trans (congrArg (fun x => some (Value.int .i64 x)) GN.out))))
 go_quiet ((go_at_call 79; refine (FY _ _ _).mono fun _ _ hq => ⟨hq.1.trans (congrArg (fun x => Ending.returned (.int .u32 x)) HKK.out),_,hq.2.symm⟩))
 rename Nat => GR
 go_wp2_with fail
 have hSS:(Ea.drewN GR).drew.heap[g]? = some (.cells (row (BR L) q o) 131 (0,0)):=(K5.out.drewN hB GR).at_.blk
 have hts:=(K5.out.drewN hB GR).drew hB
 clear Dt Fa VQ hp0
 exact Z5
end Go.Proofs.Ytnkkgofpifhoeaa.Lk
end
section
namespace Go.Proofs.Ytnkkgofpifhoeaa.Lk
open Go.RowKit Go.Proofs.Ytnkkgofpifhoeaa.Base Go.Proofs.Ytnkkgofpifhoeaa.Pk Go.Proofs.YtnkkgofpifhoeaaW.PrintWords
def Gu (L:Lk) (p:Bz):Nat:=(IntKind.u32.wrap (p.AV - L.base)).toNat
def FU (L:Lk) (p:Bz):Lk:=if p.kind = 2 ∧ p.seq = L.expected then BR L else L
def Je (L:Lk) (p:Bz):Lk:=if 1 ≤ Gu L p ∧ (Gu L p:Int) ≤ L.sent then BL (CZ (FU L p) (Gu L p)) else FU L p
def KC (L:Lk) (p:Bz):Lk:=if p.kind = 2 then emit_ (Je L p) (Hy (Je L p)) else Je L p
def OV (L:Lk) (p:Bz):List Int:=if p.kind = 2 ∧ p.seq = L.expected then p.body else []
structure Tk where
 heard:Bool
 up:Bool
 down:Bool
 body:List Int
def Cc (L:Lk) (AB:Int) (p:Bz):Lk:={ L with AB:=AB,yours:=p.mine,known:=true }
def Bf (L:Lk) (AB:Int) (p:Bz):Lk × Tk :=
 if L.phase = 0 ∨ Bo L AB p.mine = -1 then (L,⟨false,false,false,[]⟩)
 else if p.kind = 1 then
  if L.phase = 1 then
   if BI L p = true then (emit_ { Cc L AB p with phase:=2 } (Bc { Cc L AB p with phase:=2 }),⟨true,true,false,[]⟩)
   else (emit_ (Cc L AB p) (Bc (Cc L AB p)),⟨true,false,false,[]⟩)
  else if Bo L AB p.mine = 0 then (if p.seq = 0 then emit_ L (Bc L) else L,⟨true,false,false,[]⟩)
  else if L.token = 4294967295 then (Aa L,⟨true,false,true,[]⟩)
  else (emit_ (Cc (CB L) AB p) (Bc (Cc (CB L) AB p)),⟨true,false,true,[]⟩)
 else if L.phase = 2 ∧ Bo L AB p.mine = 0 ∧ BI L p = true then (KC L p,⟨true,false,false,OV L p⟩)
 else (L,⟨false,false,false,[]⟩)
theorem jR (L:Lk) (AB mine:Int):Bo L AB mine = -1 ∨ Bo L AB mine = 0 ∨ Bo L AB mine = 1:=by
 unfold Bo
 split
 ·exact .inl rfl
 ·split
  ·split
   ·exact .inl rfl
   ·split
    ·exact .inr (.inl rfl)
    ·exact .inr (.inr rfl)
  ·exact .inr (.inr rfl)
def En (w:World) (B:Nat) (S:Nat → Prop) (g:Nat) (x:Lk × Tk):Ending → World → Prop:=EW w B S g x.1 x.2.heard x.2.up x.2.down x.2.body
theorem az {w:World} {B g:Nat} {Ak Aj S:Nat → Prop} {L:Lk} {q o:Value} (h:At w B Ak Aj g L q o) (hok:L.Ok) (hS:∀ k,holds Ak Aj g k → S k) (hB:B ≤ w.heap.size) (AB:Int) (p:Bz) (Ab:Option Addr) (cb:Nat)
  (hb0:AB ≠ 0) (hbr:0 ≤ AB ∧ AB < 4294967296) (hpr:p.NT) (hck:Bg p.kind p.mine p.AB p.yours p.seq p.AV p.stamp p.echo p.zr p.zi p.body.length = 0) (hpl:p.body.length ≤ 1000)
  {CY:Nat → Prop} (hR:(Kd.int .u8).R 5 w B CY (.slice Ab p.body.length cb) p.body) (hkp:∀ k,CY k → ¬ S k) :
  Calls Try.prog 34 #[.pointer (some ⟨g,0,none⟩),.int .u32 AB,.agg #[.int .i64 p.kind,.int .u32 p.mine,.int .u32 p.AB,.int .u32 p.yours,.int .u32 p.seq,.int .u32 p.AV,.int .u32 p.stamp,.int .u32 p.echo,.complex .f64 p.zr p.zi,.slice Ab p.body.length cb]] w (En w B S g (Bf L AB p)):=by
 have DT:=hok.phase
 have hag:=jR L AB p.mine
 unfold En Bf
 by_cases h0:L.phase = 0
 ·rw [if_pos (.inl h0)]
  exact WN h hok hS hB AB p Ab cb hb0 hbr hpr hck h0
 by_cases ho:Bo L AB p.mine = -1
 ·rw [if_pos (.inr ho)]
  exact YE h hok hS hB AB p Ab cb hb0 hbr hpr hck h0 ho
 rw [if_neg (fun x => x.elim h0 ho)]
 by_cases hk:p.kind = 1
 ·rw [if_pos hk]
  by_cases h1:L.phase = 1
  ·rw [if_pos h1]
   by_cases hm:BI L p = true
   ·rw [if_pos hm]
    exact TV h hok hS hB AB p Ab cb hb0 hbr hpr hck h1 (by omega) hk hm
   ·rw [if_neg hm]
    exact TW h hok hS hB AB p Ab cb hb0 hbr hpr hck h1 (by omega) hk (by simpa using hm)
  ·rw [if_neg h1]
   have h2:L.phase = 2:=by omega
   by_cases ha:Bo L AB p.mine = 0
   ·rw [if_pos ha]
    by_cases hs:p.seq = 0
    ·rw [if_pos hs]
     exact Qy h hok hS hB AB p Ab cb hb0 hbr hpr hck h2 ha hk hs
    ·rw [if_neg hs]
     exact Qz h hok hS hB AB p Ab cb hb0 hbr hpr hck h2 ha hk hs
   ·rw [if_neg ha]
    by_cases hmx:L.token = 4294967295
    ·rw [if_pos hmx]
     exact TZ h hok hS hB AB p Ab cb hb0 hbr hpr hck h2 (by omega) hk hmx
    ·rw [if_neg hmx]
     exact Tc h hok hS hB AB p Ab cb hb0 hbr hpr hck h2 (by omega) hk hmx
 rw [if_neg hk]
 by_cases hu:L.phase = 2 ∧ Bo L AB p.mine = 0 ∧ BI L p = true
 ·rw [if_pos hu]
  obtain ⟨h2,ha,hm⟩:=hu
  have hkk:IntKind.u32.wrap (p.AV - L.base) = (Gu L p:Int):=(Int.toNat_of_nonneg (wrap32 _).1).symm
  generalize hkn:Gu L p = kn at hkk
  unfold KC Je OV
  rw [hkn]
  by_cases hd:p.kind = 2
  ·by_cases hs:p.seq = L.expected
   ·have hM:FU L p = BR L:=by unfold FU; rw [if_pos (show p.kind = 2 ∧ p.seq = L.expected from ⟨hd,hs⟩)]
    rw [hM,if_pos hd,if_pos (show p.kind = 2 ∧ p.seq = L.expected from ⟨hd,hs⟩)]
    by_cases hz:kn = 0
    ·rw [if_neg (by omega)]
     exact Tt h hok hS hB AB p Ab cb hb0 hbr hpr hck h2 ha hm hpl hR hkp kn hkk hd hs hz
    ·by_cases hle:(kn:Int) ≤ L.sent
     ·rw [if_pos ⟨by omega,hle⟩]
      exact Tq h hok hS hB AB p Ab cb hb0 hbr hpr hck h2 ha hm hpl hR hkp kn hkk hd hs (by omega) hle
     ·rw [if_neg (fun x => hle x.2)]
      exact Tu h hok hS hB AB p Ab cb hb0 hbr hpr hck h2 ha hm hpl hR hkp kn hkk hd hs (by omega) (by omega)
   ·have hM:FU L p = L:=by unfold FU; rw [if_neg (fun x => hs x.2)]
    rw [hM,if_pos hd,if_neg (show ¬ (p.kind = 2 ∧ p.seq = L.expected) from fun x => hs x.2)]
    by_cases hz:kn = 0
    ·rw [if_neg (by omega)]
     exact Tm h hok hS hB AB p Ab cb hb0 hbr hpr hck h2 ha hm hpl hR hkp kn hkk hd hs hz
    ·by_cases hle:(kn:Int) ≤ L.sent
     ·rw [if_pos ⟨by omega,hle⟩]
      exact Tj h hok hS hB AB p Ab cb hb0 hbr hpr hck h2 ha hm hpl hR hkp kn hkk hd hs (by omega) hle
     ·rw [if_neg (fun x => hle x.2)]
      exact Tn h hok hS hB AB p Ab cb hb0 hbr hpr hck h2 ha hm hpl hR hkp kn hkk hd hs (by omega) (by omega)
  ·have hM:FU L p = L:=by unfold FU; rw [if_neg (fun x => hd x.1)]
   rw [hM,if_neg hd,if_neg (show ¬ (p.kind = 2 ∧ p.seq = L.expected) from fun x => hd x.1)]
   by_cases hz:kn = 0
   ·rw [if_neg (by omega)]
    exact Tf h hok hS hB AB p Ab cb hb0 hbr hpr hck h2 ha hm hpl hR hkp kn hkk hk hd hz
   ·by_cases hle:(kn:Int) ≤ L.sent
    ·rw [if_pos ⟨by omega,hle⟩]
     exact Td h hok hS hB AB p Ab cb hb0 hbr hpr hck h2 ha hm hpl hR hkp kn hkk hk hd (by omega) hle
    ·rw [if_neg (fun x => hle x.2)]
     exact Ti h hok hS hB AB p Ab cb hb0 hbr hpr hck h2 ha hm hpl hR hkp kn hkk hk hd (by omega) (by omega)
 ·rw [if_neg hu]
  by_cases h1:L.phase = 1
  ·exact YG h hok hS hB AB p Ab cb hb0 hbr hpr hck h1 (by omega) hk
  ·have h2:L.phase = 2:=by omega
   by_cases ha:Bo L AB p.mine = 0
   ·exact YI h hok hS hB AB p Ab cb hb0 hbr hpr hck h2 ha hk (by
     cases hm:BI L p
     ·rfl
     ·exact absurd ⟨h2,ha,hm⟩ hu)
   ·exact YH h hok hS hB AB p Ab cb hb0 hbr hpr hck h2 (by omega) hk
end Go.Proofs.Ytnkkgofpifhoeaa.Lk
end
