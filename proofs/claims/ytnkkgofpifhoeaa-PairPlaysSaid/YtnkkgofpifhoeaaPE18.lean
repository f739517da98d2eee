/- What the laws of a pair are proved with: links and pairs in memory, what their methods do, what a pair keeps to (part 18). -/
import Derived.Test.YtnkkgofpifhoeaaPE17
import Derived.MapFrom
import Derived.Carry
set_option linter.unusedSimpArgs false
set_option linter.unusedVariables false
set_option maxRecDepth 100000
set_option maxHeartbeats 16000000
section
namespace Go.Proofs.Ytnkkgofpifhoeaa.Pr
open Go.RowKit Go.Proofs.Ytnkkgofpifhoeaa.Base Go.Proofs.Ytnkkgofpifhoeaa.Steps Go.Proofs.Ytnkkgofpifhoeaa.Lk Go.Proofs.Ytnkkgofpifhoeaa.Fg Go.Proofs.YtnkkgofpifhoeaaW.PrintWords Go.Proofs.YtnkkgofpifhoeaaW.PrintLast
theorem Z34 {p:Prop} (h:p:=by
 have hb1:=Af HD.out.t7 0 (.bool hdb) (cs':=#[.bool hdb,.bool false,.bool false,.slice none 0 0]) rfl
 have hb2:=Af hb1 1 (.bool true) (cs':=#[.bool hdb,.bool true,.bool false,.slice none 0 0]) rfl
 have hb3:=Af hb2 2 (.bool false) (cs':=#[.bool hdb,.bool true,.bool false,.slice none 0 0]) rfl
 have hb4:=Af hb3 3 (.slice A7 0 c7) (cs':=#[.bool hdb,.bool true,.bool false,.slice A7 0 c7]) rfl
 exact hb4):p:=h
theorem SV {w:World} {B gp:Nat} {ge:Nat → Nat} {own:Nat → Nat → Prop} {X:Pr} {lv:Nat → Value} {wv:Value} (h:Dj w B gp ge own X lv wv) (i:Nat) (hi:i < X.way.length) (Fh:X.way.length ≤ 1024) (bt:Int) (p:Bz) (hf:X.way.getD i DI = ⟨0,bt,p⟩) (hbt:0 < bt ∧ bt < 4294967296) (hp:p.Good) (hok:(X.sd 0).end_.Ok) (hll:(X.sd 0).log.length ≤ 1000000) (kind side:Int) (vb:Value) (L':Lk) (hdb:Bool) (hT:Bf (X.sd 0).end_ bt p = (L',⟨hdb,true,false,[]⟩)) :
  Calls Try.prog 112 #[.pointer (some ⟨gp,0,none⟩),.agg #[.int .i64 kind,.int .i64 side,.int .i64 (i:Int),vb]] w fun e w' => e = .returned (.int .i64 0) ∧ Moves w B gp ge own (({ X with way:=X.way.eraseIdx i }:Pr).set 0 (DZ (MV (Ai (X.sd 0) L')) 1 [])) (fun k => k = gp ∨ own 1 k ∨ own 3 k) w':=by
 have hba:Below w.heap.size w (w.alloc (.cells #[.int .i64 kind,.int .i64 side,.int .i64 (i:Int),vb] 72)):=(Below.refl _ _).alloc (Nat.le_refl _) _
 have hc2:(w.alloc (.cells #[.int .i64 kind,.int .i64 side,.int .i64 (i:Int),vb] 72)).cell? ⟨w.heap.size,2,none⟩ = some (.int .i64 (i:Int)):=(AA (heap_alloc_new w _) 2).trans rfl
 have J9:=Lib.hid (h.sub hba)
 have Ir:=Lib.hid hba
 have H:=Lib.hid h
 have HI:=Lib.hid hi
 have HL:=Lib.hid Fh
 have Um:=Lib.hid hf
 have Gf:=Lib.hid hbt
 have KE:=Lib.hid hp
 have OK:=Lib.hid hok
 have Gv:=Lib.hid hll
 have HT:=Lib.hid hT
 clear h hba hi Fh hf hbt hp hok hll hT
 go_enter Try.func112,Try.ntmps112
 go_wp2_with (first | (go_at_call 128; (have hc:=KW J9.out i HI.out HL.out); rw [Um.out] at hc; (with_reducible refine hc.mono ?_); clear hc; rintro e w3 ⟨b3,rfl,FT,Qj⟩; (obtain ⟨Ab,cb,hb3⟩:=Kd.Am FT); (subst hb3); (obtain ⟨CQ,Ho,wv1,hP1,hg1,hk1,hb1⟩:=Qj); (have EU:=Lib.hid hP1); (have OL:=Lib.hid ((Grew.refl w own).trans Ir.out.size hg1)); (have MJ:=Lib.hid (show Kept w w3 (fun k => k = gp ∨ own 1 k ∨ own 3 k) from (Kept.of_below Ir.out _).BQ hk1 (fun k hk => .inl (.inl hk)))); (have HB1:=Lib.hid ((Ir.out.mono H.out.hB).trans hb1)); (have HR3:=Lib.hid (Kd.BV FT (fun k hk => hg1.1 5 k hk))); (have HZ3:=Lib.hid (heap_alloc_new w3 (.cells #[.int .i64 0,.int .u32 0,.int .i64 0,.int .u32 0,.int .u32 0,.int .u32 0,.int .u32 0,.int .u32 0,.int .u32 0,.int .u32 0,.complex .f64 0 0,.slice none 0 0] 150))); (have OM:=Lib.hid (show Below w3.heap.size w3 (w3.alloc (.cells #[.int .i64 0,.int .u32 0,.int .i64 0,.int .u32 0,.int .u32 0,.int .u32 0,.int .u32 0,.int .u32 0,.int .u32 0,.int .u32 0,.complex .f64 0 0,.slice none 0 0] 150)) from (Below.refl _ _).alloc (Nat.le_refl _) _)); (clear hP1 hg1 hk1 hb1 FT)) | ((with_reducible refine gate_ (.store 150 (.tmp 5) (.tmp 12)) rfl ?_); (refine Ad rfl rfl 150 (.tmp 5) (.tmp 12) rfl w3.heap.size #[.int .i64 0,.int .u32 bt,.int .i64 p.kind,.int .u32 p.mine,.int .u32 p.AB,.int .u32 p.yours,.int .u32 p.seq,.int .u32 p.AV,.int .u32 p.stamp,.int .u32 p.echo,.complex .f64 p.zr p.zi,.slice Ab p.body.length cb] rfl rfl 150 _ HZ3.out (by kernel_rfl) rfl (by kernel_rfl) ?_); (intro w4 hb4 Gt); (have HB4:=Lib.hid hb4); (have FP:=Lib.hid (Gt.below OM.out (Nat.le_refl _))); (have hd0:w4.cell? ⟨w3.heap.size,0,none⟩ = some (.int .i64 0):=(AA HB4.out 0).trans rfl); (clear hb4 Gt)))
 go_quiet (fail)
 rename Nat => nq1
 go_wp2_with fail
 have hbd:=AZ (Bd FP.out nq1)
 have hSS:(w4.drewN nq1).drew.heap[gp]? = some (.cells (BK ({ X with way:=X.way.eraseIdx i }:Pr) ge Ho wv1) 143 (0,0)) ∧ (w4.drewN nq1).drew.heap[w3.heap.size]? = some (.cells #[.int .i64 0,.int .u32 bt,.int .i64 p.kind,.int .u32 p.mine,.int .u32 p.AB,.int .u32 p.yours,.int .u32 p.seq,.int .u32 p.AV,.int .u32 p.stamp,.int .u32 p.echo,.complex .f64 p.zr p.zi,.slice Ab p.body.length cb] 150 (0,0)):=⟨(EU.out.sub hbd).blk,HB4.out⟩
 clear HB4 FP HZ3 OM hd0
 refine BA (n:=15) (S:=fun w' => w'.heap[gp]? = some (.cells (BK ({ X with way:=X.way.eraseIdx i }:Pr) ge Ho wv1) 143 (0,0)) ∧ w'.heap[w3.heap.size]? = some (.cells #[.int .i64 0,.int .u32 bt,.int .i64 p.kind,.int .u32 p.mine,.int .u32 p.AB,.int .u32 p.yours,.int .u32 p.seq,.int .u32 p.AV,.int .u32 p.stamp,.int .u32 p.echo,.complex .f64 p.zr p.zi,.slice Ab p.body.length cb] 150 (0,0))) (ds:=[13]) Vp (by kernel_rfl) rfl rfl (hSS) (fun hHeld => ?_)
 generalize (w4.drewN nq1).drew = w6 at hbd hHeld ⊢
 have BB:=Lib.hid hbd
 clear hbd
 refine pu 0 20 Vq ?_
 refine pu 1 21 Vr ?_
 refine pu 2 22 Vs ?_
 refine tk 3 23 Vt hHeld ?_ (hf:=by intro w' s0; have hc2:w'.cell? ⟨gp,0,none⟩ = some (.pointer (some ⟨ge 0,0,none⟩)):=(AA s0.1 0).trans rfl; clear s0; go_simp; rfl)
 refine pu 4 24 Vu ?_
 refine tk 5 25 Vw hHeld ?_ (hf:=by intro w' s0; have hc3:w'.cell? ⟨w3.heap.size,1,none⟩ = some (.int .u32 bt):=(AA s0.2 1).trans rfl; clear s0; go_simp; with_reducible rfl)
 refine pu 6 26 Vx ?_
 refine tk 7 27 Vy hHeld ?_ (hf:=by intro w' s0; have CP:=Try.underlying27; have hd2:w'.cell? ⟨w3.heap.size,2,none⟩ = some (.int .i64 p.kind):=(AA s0.2 2).trans rfl; have hd3:w'.cell? ⟨w3.heap.size,3,none⟩ = some (.int .u32 p.mine):=(AA s0.2 3).trans rfl; have hd4:w'.cell? ⟨w3.heap.size,4,none⟩ = some (.int .u32 p.AB):=(AA s0.2 4).trans rfl; have hd5:w'.cell? ⟨w3.heap.size,5,none⟩ = some (.int .u32 p.yours):=(AA s0.2 5).trans rfl; have hd6:w'.cell? ⟨w3.heap.size,6,none⟩ = some (.int .u32 p.seq):=(AA s0.2 6).trans rfl; have hd7:w'.cell? ⟨w3.heap.size,7,none⟩ = some (.int .u32 p.AV):=(AA s0.2 7).trans rfl; have hd8:w'.cell? ⟨w3.heap.size,8,none⟩ = some (.int .u32 p.stamp):=(AA s0.2 8).trans rfl; have hd9:w'.cell? ⟨w3.heap.size,9,none⟩ = some (.int .u32 p.echo):=(AA s0.2 9).trans rfl; have hd10:w'.cell? ⟨w3.heap.size,10,none⟩ = some (.complex .f64 p.zr p.zi):=(AA s0.2 10).trans rfl; have hd11:w'.cell? ⟨w3.heap.size,11,none⟩ = some (.slice Ab p.body.length cb):=(AA s0.2 11).trans rfl; clear s0; go_simp; try rfl)
 refine Lm (σ:=Nat × Option Addr × Nat) 2 Ql (fun s => [(28,.tuple #[.agg #[.bool hdb,.bool true,.bool false,.slice s.2.1 0 s.2.2],.int .i64 0]),(19,.tuple #[.agg #[.bool hdb,.bool true,.bool false,.slice s.2.1 0 s.2.2],.int .i64 0]),(29,.agg #[.bool hdb,.bool true,.bool false,.slice s.2.1 0 s.2.2]),(30,.int .i64 0),(7,.pointer (some ⟨s.1,0,none⟩))]) (fun s w' => aI w B gp ge own (({ X with way:=X.way.eraseIdx i }:Pr).set 0 (Ai (X.sd 0) L')) (fun k => k = gp ∨ own 1 k ∨ own 3 k) s.1 (.slice s.2.1 0 s.2.2) [] #[.bool false,.bool false,.bool false,.slice none 0 0] w') ?_ ?_
 rotate_left
 ·intro hcont
  refine OY (i:=8) (j:=12) (Ni:=some 28) (Nj:=some 7) Vz eP rfl rfl rfl rfl (by kernel_rfl) (by decide) (by decide) (fun K hK => ?_) (fun K hK => ?_)
  ·skip
   have hQ6:=(EU.out.sub BB.out)
   refine BH Try.func34 (by kernel_rfl) rfl #[.pointer (some ⟨ge 0,0,none⟩),.int .u32 bt,.agg #[.int .i64 p.kind,.int .u32 p.mine,.int .u32 p.AB,.int .u32 p.yours,.int .u32 p.seq,.int .u32 p.AV,.int .u32 p.stamp,.int .u32 p.echo,.complex .f64 p.zr p.zi,.slice Ab p.body.length cb]] (by rfl) rfl rfl (by (try simp only [List.map_toArray,List.map_cons,List.map_nil]); first | done | rfl) ?_
   have Bh:Calls Try.prog 34 #[.pointer (some ⟨ge 0,0,none⟩),.int .u32 bt,.agg #[.int .i64 p.kind,.int .u32 p.mine,.int .u32 p.AB,.int .u32 p.yours,.int .u32 p.seq,.int .u32 p.AV,.int .u32 p.stamp,.int .u32 p.echo,.complex .f64 p.zr p.zi,.slice Ab p.body.length cb]] w6 _:=DL (hQ6.e 0 (by decide)) hQ6.hB OK.out bt p Gf.out KE.out (cs:=cells p (.slice Ab p.body.length cb)) (CY:=CQ 5) (DY.2 ⟨_,rfl,Kd.BJ HR3.out (Kept.of_below BB.out (fun _ => False)) (fun _ _ hf => hf)⟩) (fun k hx hy => by have:=hQ6.EF 5 (1 + 0) k hx hy; omega)
   refine Bh.mono ?_
   clear Bh
   intro e w7 Ic
   have JJ:En w6 B (CQ (1 + 0)) (ge 0) (L',⟨hdb,true,false,[]⟩) e w7:=by
    have hh:=HT.out
    rw [← hh]
    exact Ic
   exact Z26
  ·skip
   refine EZ (by rfl) (N:=7) rfl (cs:=#[.bool false,.bool false,.bool false,.slice none 0 0]) (t:=56) (by first | (go_simp; done) | (go_simp; rfl)) ?_
   intro g7 Md w8 hbx hb8
   have Kz:w8.heap[gp]? = some (.cells (BK ({ X with way:=X.way.eraseIdx i }:Pr) ge Ho wv1) 143 (0,0)) ∧ w8.heap[w3.heap.size]? = some (.cells #[.int .i64 0,.int .u32 bt,.int .i64 p.kind,.int .u32 p.mine,.int .u32 p.AB,.int .u32 p.yours,.int .u32 p.seq,.int .u32 p.AV,.int .u32 p.stamp,.int .u32 p.echo,.complex .f64 p.zr p.zi,.slice Ab p.body.length cb] 150 (0,0)):=⟨(hb8.block gp (AQ hHeld.1)).trans hHeld.1,(hb8.block _ (AQ hHeld.2)).trans hHeld.2⟩
   have Un:=Lib.hid ((EU.out.sub BB.out).sub hb8)
   have GY:=AQ (EU.out.sub BB.out).blk
   have Uo:=BB.out.size
   have hz3:=MJ.out.1
   have QX:=Lib.hid (show w8.heap[g7]? = some (.cells #[.bool false,.bool false,.bool false,.slice none 0 0] 56 (0,0)) ∧ (g7 ≠ gp ∧ ∀ i,¬ CQ i g7) ∧ w.heap.size ≤ g7 from ⟨hbx,⟨by omega,fun i hi => by have:=(EU.out.sub BB.out).lt i g7 hi; omega⟩,by omega⟩)
   have Il:=Lib.hid hb8
   clear hbx GY Uo hz3 hHeld Md
   clear hb8
   refine hK.out _ _ Kz (fun hHeld => ?_)
   clear hK K Kz
   refine nm 7 ?_
   refine on 8 (some 28) eU fun K hK => ?_
   have hQ6:=Un.out
   refine BH Try.func34 (by kernel_rfl) rfl #[.pointer (some ⟨ge 0,0,none⟩),.int .u32 bt,.agg #[.int .i64 p.kind,.int .u32 p.mine,.int .u32 p.AB,.int .u32 p.yours,.int .u32 p.seq,.int .u32 p.AV,.int .u32 p.stamp,.int .u32 p.echo,.complex .f64 p.zr p.zi,.slice Ab p.body.length cb]] (by rfl) rfl rfl (by (try simp only [List.map_toArray,List.map_cons,List.map_nil]); first | done | rfl) ?_
   have Bh:Calls Try.prog 34 #[.pointer (some ⟨ge 0,0,none⟩),.int .u32 bt,.agg #[.int .i64 p.kind,.int .u32 p.mine,.int .u32 p.AB,.int .u32 p.yours,.int .u32 p.seq,.int .u32 p.AV,.int .u32 p.stamp,.int .u32 p.echo,.complex .f64 p.zr p.zi,.slice Ab p.body.length cb]] w8 _:=DL (hQ6.e 0 (by decide)) hQ6.hB OK.out bt p Gf.out KE.out (cs:=cells p (.slice Ab p.body.length cb)) (CY:=CQ 5) (DY.2 ⟨_,rfl,Kd.BJ HR3.out (Kept.of_below (BB.out.trans (Il.out.mono BB.out.size)) (fun _ => False)) (fun _ _ hf => hf)⟩) (fun k hx hy => by have:=hQ6.EF 5 (1 + 0) k hx hy; omega)
   refine Bh.mono ?_
   clear Bh
   intro e w7 Ic
   have JJ:En w8 B (CQ (1 + 0)) (ge 0) (L',⟨hdb,true,false,[]⟩) e w7:=by
    have hh:=HT.out
    rw [← hh]
    exact Ic
   exact Z24
 intro s9 w9 hF
 obtain ⟨g7,A7,c7⟩:=s9
 obtain ⟨Jg,QW,wv2,okb,hD⟩:=hF
 have HD:=Lib.hid hD
 clear hD
 refine Ig (a':=?_) ?_ ?_
 rotate_left
 ·show Dk _ _ = _
  simp only [Dk,Act.put,sA,sZ,sS]
  rfl
 have hc0:w9.cell? ⟨g7,0,none⟩ = some (.bool false):=(AA HD.out.t7 0).trans rfl
 have hf0:=AL HD.out.t7 0
 have hc1:w9.cell? ⟨g7,1,none⟩ = some (.bool false):=(AA HD.out.t7 1).trans rfl
 have hf1:=AL HD.out.t7 1
 have hc2:w9.cell? ⟨g7,2,none⟩ = some (.bool false):=(AA HD.out.t7 2).trans rfl
 have hf2:=AL HD.out.t7 2
 have hc3:w9.cell? ⟨g7,3,none⟩ = some (.slice none 0 0):=(AA HD.out.t7 3).trans rfl
 have hf3:=AL HD.out.t7 3
 refine la 13 none XW fun K hK => ?_
 refine CG (fun wz => wz.heap[g7]? = some (.cells #[.bool hdb,.bool true,.bool false,.slice A7 0 c7] 56 (0,0)) ∧ Steps.At g7 w9 wz) (by rfl) rfl ⟨_,by go_simp; rfl,?_,?_⟩ (fun w10 hF => ?_)
 ·skip
  exact Z34
 ·repeat (first | (with_reducible exact Steps.At.refl _ _) | refine Steps.At.set ?_ _ _)
 have DJ:=Lib.hid (HD.out.write H.out.hB hF.1 hF.2)
 clear hF HD hc0 hf0 hc1 hf1 hc2 hf2 hc3 hf3
 refine hK.out _ _ ?_
 clear hK K
 refine pu 14 8 XX ?_
 refine BG (by kernel_rfl) ?_
 have ht1:w10.cell? ⟨g7,1,none⟩ = some (.bool true):=(AA DJ.out.t7 1).trans rfl
 have ht2:w10.cell? ⟨g7,2,none⟩ = some (.bool false):=(AA DJ.out.t7 2).trans rfl
 go_wp2_with fail
 have hbd:=AZ (Below.refl w10.heap.size w10)
 have QY:=DJ.out.sub hbd
 have hS7:w10.drew.heap[gp]? = some (.cells (BK (({ X with way:=X.way.eraseIdx i }:Pr).set 0 (Ai (X.sd 0) L')) ge QW wv2) 143 (0,0)):=QY.at_.blk
 clear DJ hbd ht1 ht2
 refine BA (n:=14) (S:=fun w' => w'.heap[gp]? = some (.cells (BK (({ X with way:=X.way.eraseIdx i }:Pr).set 0 (Ai (X.sd 0) L')) ge QW wv2) 143 (0,0))) (ds:=[13]) xI (by kernel_rfl) rfl rfl (hS7) (fun hHeld => ?_)
 generalize w10.drew = VZ at QY hHeld ⊢
 have Lh:=Lib.hid QY
 clear QY
 refine pu 0 37 xJ ?_
 refine pu 1 38 xK ?_
 refine pu 2 39 xM ?_
 refine pu 3 40 xN ?_
 refine tk 4 41 xO hHeld ?_ (hf:=by intro w' s0; have hc1:w'.cell? ⟨gp,1,none⟩ = some (.int .u32 (X.sd 0).AB):=(AA s0 1).trans rfl; clear s0; go_simp; rfl)
 refine pu 5 42 xP ?_
 refine pu 6 43 xQ ?_
 refine pu 7 44 xR ?_
 refine tk 8 45 xU hHeld ?_ (hf:=by intro w' s0; have hc1:w'.cell? ⟨gp,0,none⟩ = some (.pointer (some ⟨ge 0,0,none⟩)):=(AA s0 0).trans rfl; clear s0; go_simp; rfl)
 refine on 9 (some 46) M2T fun K hK => ?_
 refine BH Try.func71 (by kernel_rfl) rfl #[.pointer (some ⟨ge 0,0,none⟩)] (by rfl) rfl rfl (by (try simp only [List.map_toArray,List.map_cons,List.map_nil]); first | done | rfl) ?_
 have hE:=Lh.out.at_.e 0 (by decide)
 rw [Pr.Ae] at hE
 refine (Lk.token_of hE).mono ?_
 clear hE
 rintro e w12 ⟨rfl,rfl⟩
 refine ⟨_,rfl,?_⟩
 refine hK.out _ _ hHeld (fun hHeld => ?_)
 clear hK K
 refine nm 46 ?_
 refine pu 10 47 xW ?_
 refine pu 11 48 xX ?_
 refine pu 12 49 xY ?_
 refine la 13 none xg fun K hK => ?_
 have hs6:=VV Lh.out.at_.blk 3 (.int .i64 0) (.int .u32 (X.sd 0).AB) (.int .u32 L'.token) (.int .u32 0) (.int .u32 0) (.slice none 0 0) (cs':=BK ((({ X with way:=X.way.eraseIdx i }:Pr).set 0 (Ai (X.sd 0) L')).set 0 (bI (Ai (X.sd 0) L'))) ge QW wv2) rfl Lh.out.at_.low
 have hrun:=run_storeAt_mid (P:=Try.prog) VZ gp 3 67 #[.int .i64 0,.int .u32 (X.sd 0).AB,.int .u32 L'.token,.int .u32 0,.int .u32 0,.slice none 0 0] (RN Lh.out.at_.blk 3 6 (by show 9 ≤ 19; decide)) (by kernel_rfl) (by kernel_rfl)
 refine CG (fun wz => DV w B gp ge own ((({ X with way:=X.way.eraseIdx i }:Pr).set 0 (Ai (X.sd 0) L')).set 0 (bI (Ai (X.sd 0) L'))) (fun k => k = gp ∨ own 1 k ∨ own 3 k) g7 (.slice A7 0 c7) [] #[.bool hdb,.bool true,.bool false,.slice A7 0 c7] wz Jg QW wv2 okb) (by rfl) rfl ⟨_,I9 67 (.tmp 49) (.tmp 47) rfl gp 3 #[.int .i64 0,.int .u32 (X.sd 0).AB,.int .u32 L'.token,.int .u32 0,.int .u32 0,.slice none 0 0] rfl rfl hrun,Lh.out.IX (.inl rfl) hs6.1 hs6.2.1 hs6.2.2 (fun t => ?_) (fun t => ?_) rfl⟩ (fun w12 hF => ?_)
 ·by_cases ht:t = 0
  ·subst ht; rw [Pr.Ae,Pr.Ae]; rfl
  ·rw [Pr.BP _ ht]
 ·by_cases ht:t = 0
  ·subst ht; rw [Pr.Ae,Pr.Ae]; rfl
  ·rw [Pr.BP _ ht]
 have QZ:=Lib.hid hF
 clear hF hs6 hrun hHeld Lh
 refine hK.out _ _ ?_
 clear hK K
 refine BG (by kernel_rfl) ?_
 have he0:w12.cell? ⟨gp,0,none⟩ = some (.pointer (some ⟨ge 0,0,none⟩)):=(AA QZ.out.at_.blk 0).trans rfl
 go_wp2_with (first | (go_at_call 129; (have Bh:=VN (QZ.out.at_.e 0 (by decide))); (rw [Pr.Ae] at Bh); (with_reducible refine Bh.mono ?_); clear Bh; rintro e oJ ⟨rfl,ZT⟩; (have Lj:=Lib.hid (QZ.out.sub ZT)); (clear ZT QZ he0)) | ((with_reducible refine gate_ (.store 24 (.tmp 62) (.tmp 58)) rfl ?_); (refine AU (fun wz => DV w B gp ge own ((({ X with way:=X.way.eraseIdx i }:Pr).set 0 (Ai (X.sd 0) L')).set 0 (rH (Ai (X.sd 0) L'))) (fun k => k = gp ∨ own 1 k ∨ own 3 k) g7 (.slice A7 0 c7) [] #[.bool hdb,.bool true,.bool false,.slice A7 0 c7] wz Jg QW wv2 okb) rfl rfl ⟨_,(by have hz1:oJ.cell? ⟨gp,6,none⟩ = some _:=(AA Lj.out.at_.blk 6).trans rfl; have hz2:=AL Lj.out.at_.blk 6; first | (go_simp; done) | (go_simp; rfl)),Lj.out.IX (.inl rfl) (Af Lj.out.at_.blk 6 _ rfl) (Kept.setCell (S:=fun k => k = gp) (Kept.refl _ _) (p:=⟨gp,6,none⟩) (.inl rfl) _) ((Below.refl B _).setCell (p:=⟨gp,6,none⟩) Lj.out.at_.low _) (fun t => by by_cases ht:t = 0; (subst ht; rw [Pr.Ae,Pr.Ae]; rfl); (simp only [Pr.BP _ ht])) (fun t => by by_cases ht:t = 0; (subst ht; rw [Pr.Ae,Pr.Ae]; rfl); (simp only [Pr.BP _ ht])) rfl⟩ (fun wZ hF => ?_)); (have Ll:=Lib.hid hF); (clear hF Lj)) | ((with_reducible refine gate_ (.store 24 (.tmp 65) (.tmp 59)) rfl ?_); (refine AU (fun wz => DV w B gp ge own ((({ X with way:=X.way.eraseIdx i }:Pr).set 0 (Ai (X.sd 0) L')).set 0 (MV (Ai (X.sd 0) L'))) (fun k => k = gp ∨ own 1 k ∨ own 3 k) g7 (.slice A7 0 c7) [] #[.bool hdb,.bool true,.bool false,.slice A7 0 c7] wz Jg QW wv2 okb) rfl rfl ⟨_,(by have hz1:wZ.cell? ⟨gp,7,none⟩ = some _:=(AA Ll.out.at_.blk 7).trans rfl; have hz2:=AL Ll.out.at_.blk 7; first | (go_simp; done) | (go_simp; rfl)),Ll.out.IX (.inl rfl) (Af Ll.out.at_.blk 7 _ rfl) (Kept.setCell (S:=fun k => k = gp) (Kept.refl _ _) (p:=⟨gp,7,none⟩) (.inl rfl) _) ((Below.refl B _).setCell (p:=⟨gp,7,none⟩) Ll.out.at_.low _) (fun t => by by_cases ht:t = 0; (subst ht; rw [Pr.Ae,Pr.Ae]; rfl); (simp only [Pr.BP _ ht])) (fun t => by by_cases ht:t = 0; (subst ht; rw [Pr.Ae,Pr.Ae]; rfl); (simp only [Pr.BP _ ht])) rfl⟩ (fun uM hF => ?_)); (have JK:=Lib.hid hF); (clear hF Ll)) | (go_at_call 127; (have Bh:Calls Try.prog 127 #[.pointer (some ⟨gp,0,none⟩),.int .i64 1,.slice none 0 0] uM _:=LV JK.out.at_ 1 [] none 0 (Lu uM) (by decide) (by rw [Pr.Ae]; exact Gv.out)); (with_reducible refine Bh.mono ?_); clear Bh; rintro e w12 ⟨rfl,hM⟩; (have HM:=Lib.hid hM); clear hM; (have hu3:w12.cell? ⟨g7,3,none⟩ = some (.slice A7 0 c7):=cell_kept ((AA JK.out.t7 3).trans rfl) HM.out.choose_spec.choose_spec.choose_spec.2.2.1 (fun hx => hx.elim (fun x => JK.out.n7.1 x) (fun x => JK.out.n7.2.1 _ x)))))
 all_goals (go_ret; refine ⟨rfl,?_⟩; (have hM:=HM.out; rw [Pr.set_set,Pr.Ae,Pr.set_set] at hM; exact Moves.BQ JK.out.kept JK.out.below JK.out.grew hM (fun k hk => hk.elim (fun x => .inl (.inl x)) (fun x => (JK.out.grew.2 _ k x).elim (fun y => .inl (.inr (.inr y))) .inr))))
theorem SX {w:World} {B gp:Nat} {ge:Nat → Nat} {own:Nat → Nat → Prop} {X:Pr} {lv:Nat → Value} {wv:Value} (h:Dj w B gp ge own X lv wv) (i:Nat) (hi:i < X.way.length) (Fh:X.way.length ≤ 1024) (bt:Int) (p:Bz) (hf:X.way.getD i DI = ⟨1,bt,p⟩) (hbt:0 < bt ∧ bt < 4294967296) (hp:p.Good) (hok:(X.sd 1).end_.Ok) (hll:(X.sd 1).log.length ≤ 1000000) (kind side:Int) (vb:Value) (L':Lk) (hdb:Bool) (hT:Bf (X.sd 1).end_ bt p = (L',⟨hdb,true,false,[]⟩)) :
  Calls Try.prog 112 #[.pointer (some ⟨gp,0,none⟩),.agg #[.int .i64 kind,.int .i64 side,.int .i64 (i:Int),vb]] w fun e w' => e = .returned (.int .i64 0) ∧ Moves w B gp ge own (({ X with way:=X.way.eraseIdx i }:Pr).set 1 (DZ (MV (Ai (X.sd 1) L')) 1 [])) (fun k => k = gp ∨ own 2 k ∨ own 4 k) w':=by
 have hba:Below w.heap.size w (w.alloc (.cells #[.int .i64 kind,.int .i64 side,.int .i64 (i:Int),vb] 72)):=(Below.refl _ _).alloc (Nat.le_refl _) _
 have hc2:(w.alloc (.cells #[.int .i64 kind,.int .i64 side,.int .i64 (i:Int),vb] 72)).cell? ⟨w.heap.size,2,none⟩ = some (.int .i64 (i:Int)):=(AA (heap_alloc_new w _) 2).trans rfl
 have J9:=Lib.hid (h.sub hba)
 have Ir:=Lib.hid hba
 have H:=Lib.hid h
 have HI:=Lib.hid hi
 have HL:=Lib.hid Fh
 have Um:=Lib.hid hf
 have Gf:=Lib.hid hbt
 have KE:=Lib.hid hp
 have OK:=Lib.hid hok
 have Gv:=Lib.hid hll
 have HT:=Lib.hid hT
 clear h hba hi Fh hf hbt hp hok hll hT
 go_enter Try.func112,Try.ntmps112
 go_wp2_with (first | (go_at_call 128; (have hc:=KW J9.out i HI.out HL.out); rw [Um.out] at hc; (with_reducible refine hc.mono ?_); clear hc; rintro e w3 ⟨b3,rfl,FT,Qj⟩; (obtain ⟨Ab,cb,hb3⟩:=Kd.Am FT); (subst hb3); (obtain ⟨CQ,Ho,wv1,hP1,hg1,hk1,hb1⟩:=Qj); (have EU:=Lib.hid hP1); (have OL:=Lib.hid ((Grew.refl w own).trans Ir.out.size hg1)); (have MJ:=Lib.hid (show Kept w w3 (fun k => k = gp ∨ own 2 k ∨ own 4 k) from (Kept.of_below Ir.out _).BQ hk1 (fun k hk => .inl (.inl hk)))); (have HB1:=Lib.hid ((Ir.out.mono H.out.hB).trans hb1)); (have HR3:=Lib.hid (Kd.BV FT (fun k hk => hg1.1 5 k hk))); (have HZ3:=Lib.hid (heap_alloc_new w3 (.cells #[.int .i64 0,.int .u32 0,.int .i64 0,.int .u32 0,.int .u32 0,.int .u32 0,.int .u32 0,.int .u32 0,.int .u32 0,.int .u32 0,.complex .f64 0 0,.slice none 0 0] 150))); (have OM:=Lib.hid (show Below w3.heap.size w3 (w3.alloc (.cells #[.int .i64 0,.int .u32 0,.int .i64 0,.int .u32 0,.int .u32 0,.int .u32 0,.int .u32 0,.int .u32 0,.int .u32 0,.int .u32 0,.complex .f64 0 0,.slice none 0 0] 150)) from (Below.refl _ _).alloc (Nat.le_refl _) _)); (clear hP1 hg1 hk1 hb1 FT)) | ((with_reducible refine gate_ (.store 150 (.tmp 5) (.tmp 12)) rfl ?_); (refine Ad rfl rfl 150 (.tmp 5) (.tmp 12) rfl w3.heap.size #[.int .i64 1,.int .u32 bt,.int .i64 p.kind,.int .u32 p.mine,.int .u32 p.AB,.int .u32 p.yours,.int .u32 p.seq,.int .u32 p.AV,.int .u32 p.stamp,.int .u32 p.echo,.complex .f64 p.zr p.zi,.slice Ab p.body.length cb] rfl rfl 150 _ HZ3.out (by kernel_rfl) rfl (by kernel_rfl) ?_); (intro w4 hb4 Gt); (have HB4:=Lib.hid hb4); (have FP:=Lib.hid (Gt.below OM.out (Nat.le_refl _))); (have hd0:w4.cell? ⟨w3.heap.size,0,none⟩ = some (.int .i64 1):=(AA HB4.out 0).trans rfl); (clear hb4 Gt)))
 go_quiet (fail)
 rename Nat => nq1
 go_wp2_with fail
 have hbd:=AZ (Bd FP.out nq1)
 have hSS:(w4.drewN nq1).drew.heap[gp]? = some (.cells (BK ({ X with way:=X.way.eraseIdx i }:Pr) ge Ho wv1) 143 (0,0)) ∧ (w4.drewN nq1).drew.heap[w3.heap.size]? = some (.cells #[.int .i64 1,.int .u32 bt,.int .i64 p.kind,.int .u32 p.mine,.int .u32 p.AB,.int .u32 p.yours,.int .u32 p.seq,.int .u32 p.AV,.int .u32 p.stamp,.int .u32 p.echo,.complex .f64 p.zr p.zi,.slice Ab p.body.length cb] 150 (0,0)):=⟨(EU.out.sub hbd).blk,HB4.out⟩
 clear HB4 FP HZ3 OM hd0
 refine BA (n:=15) (S:=fun w' => w'.heap[gp]? = some (.cells (BK ({ X with way:=X.way.eraseIdx i }:Pr) ge Ho wv1) 143 (0,0)) ∧ w'.heap[w3.heap.size]? = some (.cells #[.int .i64 1,.int .u32 bt,.int .i64 p.kind,.int .u32 p.mine,.int .u32 p.AB,.int .u32 p.yours,.int .u32 p.seq,.int .u32 p.AV,.int .u32 p.stamp,.int .u32 p.echo,.complex .f64 p.zr p.zi,.slice Ab p.body.length cb] 150 (0,0))) (ds:=[13]) Vp (by kernel_rfl) rfl rfl (hSS) (fun hHeld => ?_)
 generalize (w4.drewN nq1).drew = w6 at hbd hHeld ⊢
 have BB:=Lib.hid hbd
 clear hbd
 refine pu 0 20 Vq ?_
 refine pu 1 21 Vr ?_
 refine pu 2 22 Vs ?_
 refine tk 3 23 Vt hHeld ?_ (hf:=by intro w' s0; have hc2:w'.cell? ⟨gp,9,none⟩ = some (.pointer (some ⟨ge 1,0,none⟩)):=(AA s0.1 9).trans rfl; clear s0; go_simp; rfl)
 refine pu 4 24 Vu ?_
 refine tk 5 25 Vw hHeld ?_ (hf:=by intro w' s0; have hc3:w'.cell? ⟨w3.heap.size,1,none⟩ = some (.int .u32 bt):=(AA s0.2 1).trans rfl; clear s0; go_simp; with_reducible rfl)
 refine pu 6 26 Vx ?_
 refine tk 7 27 Vy hHeld ?_ (hf:=by intro w' s0; have CP:=Try.underlying27; have hd2:w'.cell? ⟨w3.heap.size,2,none⟩ = some (.int .i64 p.kind):=(AA s0.2 2).trans rfl; have hd3:w'.cell? ⟨w3.heap.size,3,none⟩ = some (.int .u32 p.mine):=(AA s0.2 3).trans rfl; have hd4:w'.cell? ⟨w3.heap.size,4,none⟩ = some (.int .u32 p.AB):=(AA s0.2 4).trans rfl; have hd5:w'.cell? ⟨w3.heap.size,5,none⟩ = some (.int .u32 p.yours):=(AA s0.2 5).trans rfl; have hd6:w'.cell? ⟨w3.heap.size,6,none⟩ = some (.int .u32 p.seq):=(AA s0.2 6).trans rfl; have hd7:w'.cell? ⟨w3.heap.size,7,none⟩ = some (.int .u32 p.AV):=(AA s0.2 7).trans rfl; have hd8:w'.cell? ⟨w3.heap.size,8,none⟩ = some (.int .u32 p.stamp):=(AA s0.2 8).trans rfl; have hd9:w'.cell? ⟨w3.heap.size,9,none⟩ = some (.int .u32 p.echo):=(AA s0.2 9).trans rfl; have hd10:w'.cell? ⟨w3.heap.size,10,none⟩ = some (.complex .f64 p.zr p.zi):=(AA s0.2 10).trans rfl; have hd11:w'.cell? ⟨w3.heap.size,11,none⟩ = some (.slice Ab p.body.length cb):=(AA s0.2 11).trans rfl; clear s0; go_simp; try rfl)
 refine Lm (σ:=Nat × Option Addr × Nat) 2 Ql (fun s => [(28,.tuple #[.agg #[.bool hdb,.bool true,.bool false,.slice s.2.1 0 s.2.2],.int .i64 0]),(19,.tuple #[.agg #[.bool hdb,.bool true,.bool false,.slice s.2.1 0 s.2.2],.int .i64 0]),(29,.agg #[.bool hdb,.bool true,.bool false,.slice s.2.1 0 s.2.2]),(30,.int .i64 0),(7,.pointer (some ⟨s.1,0,none⟩))]) (fun s w' => aI w B gp ge own (({ X with way:=X.way.eraseIdx i }:Pr).set 1 (Ai (X.sd 1) L')) (fun k => k = gp ∨ own 2 k ∨ own 4 k) s.1 (.slice s.2.1 0 s.2.2) [] #[.bool false,.bool false,.bool false,.slice none 0 0] w') ?_ ?_
 rotate_left
 ·intro hcont
  refine OY (i:=8) (j:=12) (Ni:=some 28) (Nj:=some 7) Vz eP rfl rfl rfl rfl (by kernel_rfl) (by decide) (by decide) (fun K hK => ?_) (fun K hK => ?_)
  ·skip
   have hQ6:=(EU.out.sub BB.out)
   refine BH Try.func34 (by kernel_rfl) rfl #[.pointer (some ⟨ge 1,0,none⟩),.int .u32 bt,.agg #[.int .i64 p.kind,.int .u32 p.mine,.int .u32 p.AB,.int .u32 p.yours,.int .u32 p.seq,.int .u32 p.AV,.int .u32 p.stamp,.int .u32 p.echo,.complex .f64 p.zr p.zi,.slice Ab p.body.length cb]] (by rfl) rfl rfl (by (try simp only [List.map_toArray,List.map_cons,List.map_nil]); first | done | rfl) ?_
   have Bh:Calls Try.prog 34 #[.pointer (some ⟨ge 1,0,none⟩),.int .u32 bt,.agg #[.int .i64 p.kind,.int .u32 p.mine,.int .u32 p.AB,.int .u32 p.yours,.int .u32 p.seq,.int .u32 p.AV,.int .u32 p.stamp,.int .u32 p.echo,.complex .f64 p.zr p.zi,.slice Ab p.body.length cb]] w6 _:=DL (hQ6.e 1 (by decide)) hQ6.hB OK.out bt p Gf.out KE.out (cs:=cells p (.slice Ab p.body.length cb)) (CY:=CQ 5) (DY.2 ⟨_,rfl,Kd.BJ HR3.out (Kept.of_below BB.out (fun _ => False)) (fun _ _ hf => hf)⟩) (fun k hx hy => by have:=hQ6.EF 5 (1 + 1) k hx hy; omega)
   refine Bh.mono ?_
   clear Bh
   intro e w7 Ic
   have JJ:En w6 B (CQ (1 + 1)) (ge 1) (L',⟨hdb,true,false,[]⟩) e w7:=by
    have hh:=HT.out
    rw [← hh]
    exact Ic
   exact Z27
  ·skip
   refine EZ (by rfl) (N:=7) rfl (cs:=#[.bool false,.bool false,.bool false,.slice none 0 0]) (t:=56) (by first | (go_simp; done) | (go_simp; rfl)) ?_
   intro g7 Md w8 hbx hb8
   have Kz:w8.heap[gp]? = some (.cells (BK ({ X with way:=X.way.eraseIdx i }:Pr) ge Ho wv1) 143 (0,0)) ∧ w8.heap[w3.heap.size]? = some (.cells #[.int .i64 1,.int .u32 bt,.int .i64 p.kind,.int .u32 p.mine,.int .u32 p.AB,.int .u32 p.yours,.int .u32 p.seq,.int .u32 p.AV,.int .u32 p.stamp,.int .u32 p.echo,.complex .f64 p.zr p.zi,.slice Ab p.body.length cb] 150 (0,0)):=⟨(hb8.block gp (AQ hHeld.1)).trans hHeld.1,(hb8.block _ (AQ hHeld.2)).trans hHeld.2⟩
   have Un:=Lib.hid ((EU.out.sub BB.out).sub hb8)
   have GY:=AQ (EU.out.sub BB.out).blk
   have Uo:=BB.out.size
   have hz3:=MJ.out.1
   have QX:=Lib.hid (show w8.heap[g7]? = some (.cells #[.bool false,.bool false,.bool false,.slice none 0 0] 56 (0,0)) ∧ (g7 ≠ gp ∧ ∀ i,¬ CQ i g7) ∧ w.heap.size ≤ g7 from ⟨hbx,⟨by omega,fun i hi => by have:=(EU.out.sub BB.out).lt i g7 hi; omega⟩,by omega⟩)
   have Il:=Lib.hid hb8
   clear hbx GY Uo hz3 hHeld Md
   clear hb8
   refine hK.out _ _ Kz (fun hHeld => ?_)
   clear hK K Kz
   refine nm 7 ?_
   refine on 8 (some 28) eU fun K hK => ?_
   have hQ6:=Un.out
   refine BH Try.func34 (by kernel_rfl) rfl #[.pointer (some ⟨ge 1,0,none⟩),.int .u32 bt,.agg #[.int .i64 p.kind,.int .u32 p.mine,.int .u32 p.AB,.int .u32 p.yours,.int .u32 p.seq,.int .u32 p.AV,.int .u32 p.stamp,.int .u32 p.echo,.complex .f64 p.zr p.zi,.slice Ab p.body.length cb]] (by rfl) rfl rfl (by (try simp only [List.map_toArray,List.map_cons,List.map_nil]); first | done | rfl) ?_
   have Bh:Calls Try.prog 34 #[.pointer (some ⟨ge 1,0,none⟩),.int .u32 bt,.agg #[.int .i64 p.kind,.int .u32 p.mine,.int .u32 p.AB,.int .u32 p.yours,.int .u32 p.seq,.int .u32 p.AV,.int .u32 p.stamp,.int .u32 p.echo,.complex .f64 p.zr p.zi,.slice Ab p.body.length cb]] w8 _:=DL (hQ6.e 1 (by decide)) hQ6.hB OK.out bt p Gf.out KE.out (cs:=cells p (.slice Ab p.body.length cb)) (CY:=CQ 5) (DY.2 ⟨_,rfl,Kd.BJ HR3.out (Kept.of_below (BB.out.trans (Il.out.mono BB.out.size)) (fun _ => False)) (fun _ _ hf => hf)⟩) (fun k hx hy => by have:=hQ6.EF 5 (1 + 1) k hx hy; omega)
   refine Bh.mono ?_
   clear Bh
   intro e w7 Ic
   have JJ:En w8 B (CQ (1 + 1)) (ge 1) (L',⟨hdb,true,false,[]⟩) e w7:=by
    have hh:=HT.out
    rw [← hh]
    exact Ic
   exact Z25
 intro s9 w9 hF
 obtain ⟨g7,A7,c7⟩:=s9
 obtain ⟨Jg,QW,wv2,okb,hD⟩:=hF
 have HD:=Lib.hid hD
 clear hD
 refine Ig (a':=?_) ?_ ?_
 rotate_left
 ·show Dk _ _ = _
  simp only [Dk,Act.put,sA,sZ,sS]
  rfl
 have hc0:w9.cell? ⟨g7,0,none⟩ = some (.bool false):=(AA HD.out.t7 0).trans rfl
 have hf0:=AL HD.out.t7 0
 have hc1:w9.cell? ⟨g7,1,none⟩ = some (.bool false):=(AA HD.out.t7 1).trans rfl
 have hf1:=AL HD.out.t7 1
 have hc2:w9.cell? ⟨g7,2,none⟩ = some (.bool false):=(AA HD.out.t7 2).trans rfl
 have hf2:=AL HD.out.t7 2
 have hc3:w9.cell? ⟨g7,3,none⟩ = some (.slice none 0 0):=(AA HD.out.t7 3).trans rfl
 have hf3:=AL HD.out.t7 3
 refine la 13 none XW fun K hK => ?_
 refine CG (fun wz => wz.heap[g7]? = some (.cells #[.bool hdb,.bool true,.bool false,.slice A7 0 c7] 56 (0,0)) ∧ Steps.At g7 w9 wz) (by rfl) rfl ⟨_,by go_simp; rfl,?_,?_⟩ (fun w10 hF => ?_)
 ·skip
  exact Z34
 ·repeat (first | (with_reducible exact Steps.At.refl _ _) | refine Steps.At.set ?_ _ _)
 have DJ:=Lib.hid (HD.out.write H.out.hB hF.1 hF.2)
 clear hF HD hc0 hf0 hc1 hf1 hc2 hf2 hc3 hf3
 refine hK.out _ _ ?_
 clear hK K
 refine pu 14 8 XX ?_
 refine BG (by kernel_rfl) ?_
 have ht1:w10.cell? ⟨g7,1,none⟩ = some (.bool true):=(AA DJ.out.t7 1).trans rfl
 have ht2:w10.cell? ⟨g7,2,none⟩ = some (.bool false):=(AA DJ.out.t7 2).trans rfl
 go_wp2_with fail
 have hbd:=AZ (Below.refl w10.heap.size w10)
 have QY:=DJ.out.sub hbd
 have hS7:w10.drew.heap[gp]? = some (.cells (BK (({ X with way:=X.way.eraseIdx i }:Pr).set 1 (Ai (X.sd 1) L')) ge QW wv2) 143 (0,0)):=QY.at_.blk
 clear DJ hbd ht1 ht2
 refine BA (n:=14) (S:=fun w' => w'.heap[gp]? = some (.cells (BK (({ X with way:=X.way.eraseIdx i }:Pr).set 1 (Ai (X.sd 1) L')) ge QW wv2) 143 (0,0))) (ds:=[13]) xI (by kernel_rfl) rfl rfl (hS7) (fun hHeld => ?_)
 generalize w10.drew = VZ at QY hHeld ⊢
 have Lh:=Lib.hid QY
 clear QY
 refine pu 0 37 xJ ?_
 refine pu 1 38 xK ?_
 refine pu 2 39 xM ?_
 refine pu 3 40 xN ?_
 refine tk 4 41 xO hHeld ?_ (hf:=by intro w' s0; have hc1:w'.cell? ⟨gp,10,none⟩ = some (.int .u32 (X.sd 1).AB):=(AA s0 10).trans rfl; clear s0; go_simp; rfl)
 refine pu 5 42 xP ?_
 refine pu 6 43 xQ ?_
 refine pu 7 44 xR ?_
 refine tk 8 45 xU hHeld ?_ (hf:=by intro w' s0; have hc1:w'.cell? ⟨gp,9,none⟩ = some (.pointer (some ⟨ge 1,0,none⟩)):=(AA s0 9).trans rfl; clear s0; go_simp; rfl)
 refine on 9 (some 46) M2T fun K hK => ?_
 refine BH Try.func71 (by kernel_rfl) rfl #[.pointer (some ⟨ge 1,0,none⟩)] (by rfl) rfl rfl (by (try simp only [List.map_toArray,List.map_cons,List.map_nil]); first | done | rfl) ?_
 have hE:=Lh.out.at_.e 1 (by decide)
 rw [Pr.Ae] at hE
 refine (Lk.token_of hE).mono ?_
 clear hE
 rintro e w12 ⟨rfl,rfl⟩
 refine ⟨_,rfl,?_⟩
 refine hK.out _ _ hHeld (fun hHeld => ?_)
 clear hK K
 refine nm 46 ?_
 refine pu 10 47 xW ?_
 refine pu 11 48 xX ?_
 refine pu 12 49 xY ?_
 refine la 13 none xg fun K hK => ?_
 have hs6:=VV Lh.out.at_.blk 12 (.int .i64 0) (.int .u32 (X.sd 1).AB) (.int .u32 L'.token) (.int .u32 0) (.int .u32 0) (.slice none 0 0) (cs':=BK ((({ X with way:=X.way.eraseIdx i }:Pr).set 1 (Ai (X.sd 1) L')).set 1 (bI (Ai (X.sd 1) L'))) ge QW wv2) rfl Lh.out.at_.low
 have hrun:=run_storeAt_mid (P:=Try.prog) VZ gp 12 67 #[.int .i64 0,.int .u32 (X.sd 1).AB,.int .u32 L'.token,.int .u32 0,.int .u32 0,.slice none 0 0] (RN Lh.out.at_.blk 12 6 (by show 18 ≤ 19; decide)) (by kernel_rfl) (by kernel_rfl)
 refine CG (fun wz => DV w B gp ge own ((({ X with way:=X.way.eraseIdx i }:Pr).set 1 (Ai (X.sd 1) L')).set 1 (bI (Ai (X.sd 1) L'))) (fun k => k = gp ∨ own 2 k ∨ own 4 k) g7 (.slice A7 0 c7) [] #[.bool hdb,.bool true,.bool false,.slice A7 0 c7] wz Jg QW wv2 okb) (by rfl) rfl ⟨_,I9 67 (.tmp 49) (.tmp 47) rfl gp 12 #[.int .i64 0,.int .u32 (X.sd 1).AB,.int .u32 L'.token,.int .u32 0,.int .u32 0,.slice none 0 0] rfl rfl hrun,Lh.out.IX (.inl rfl) hs6.1 hs6.2.1 hs6.2.2 (fun t => ?_) (fun t => ?_) rfl⟩ (fun w12 hF => ?_)
 ·by_cases ht:t = 1
  ·subst ht; rw [Pr.Ae,Pr.Ae]; rfl
  ·rw [Pr.BP _ ht]
 ·by_cases ht:t = 1
  ·subst ht; rw [Pr.Ae,Pr.Ae]; rfl
  ·rw [Pr.BP _ ht]
 have QZ:=Lib.hid hF
 clear hF hs6 hrun hHeld Lh
 refine hK.out _ _ ?_
 clear hK K
 refine BG (by kernel_rfl) ?_
 have he0:w12.cell? ⟨gp,9,none⟩ = some (.pointer (some ⟨ge 1,0,none⟩)):=(AA QZ.out.at_.blk 9).trans rfl
 go_wp2_with (first | (go_at_call 129; (have Bh:=VN (QZ.out.at_.e 1 (by decide))); (rw [Pr.Ae] at Bh); (with_reducible refine Bh.mono ?_); clear Bh; rintro e oJ ⟨rfl,ZT⟩; (have Lj:=Lib.hid (QZ.out.sub ZT)); (clear ZT QZ he0)) | ((with_reducible refine gate_ (.store 24 (.tmp 62) (.tmp 58)) rfl ?_); (refine AU (fun wz => DV w B gp ge own ((({ X with way:=X.way.eraseIdx i }:Pr).set 1 (Ai (X.sd 1) L')).set 1 (rH (Ai (X.sd 1) L'))) (fun k => k = gp ∨ own 2 k ∨ own 4 k) g7 (.slice A7 0 c7) [] #[.bool hdb,.bool true,.bool false,.slice A7 0 c7] wz Jg QW wv2 okb) rfl rfl ⟨_,(by have hz1:oJ.cell? ⟨gp,15,none⟩ = some _:=(AA Lj.out.at_.blk 15).trans rfl; have hz2:=AL Lj.out.at_.blk 15; first | (go_simp; done) | (go_simp; rfl)),Lj.out.IX (.inl rfl) (Af Lj.out.at_.blk 15 _ rfl) (Kept.setCell (S:=fun k => k = gp) (Kept.refl _ _) (p:=⟨gp,15,none⟩) (.inl rfl) _) ((Below.refl B _).setCell (p:=⟨gp,15,none⟩) Lj.out.at_.low _) (fun t => by by_cases ht:t = 1; (subst ht; rw [Pr.Ae,Pr.Ae]; rfl); (simp only [Pr.BP _ ht])) (fun t => by by_cases ht:t = 1; (subst ht; rw [Pr.Ae,Pr.Ae]; rfl); (simp only [Pr.BP _ ht])) rfl⟩ (fun wZ hF => ?_)); (have Ll:=Lib.hid hF); (clear hF Lj)) | ((with_reducible refine gate_ (.store 24 (.tmp 65) (.tmp 59)) rfl ?_); (refine AU (fun wz => DV w B gp ge own ((({ X with way:=X.way.eraseIdx i }:Pr).set 1 (Ai (X.sd 1) L')).set 1 (MV (Ai (X.sd 1) L'))) (fun k => k = gp ∨ own 2 k ∨ own 4 k) g7 (.slice A7 0 c7) [] #[.bool hdb,.bool true,.bool false,.slice A7 0 c7] wz Jg QW wv2 okb) rfl rfl ⟨_,(by have hz1:wZ.cell? ⟨gp,16,none⟩ = some _:=(AA Ll.out.at_.blk 16).trans rfl; have hz2:=AL Ll.out.at_.blk 16; first | (go_simp; done) | (go_simp; rfl)),Ll.out.IX (.inl rfl) (Af Ll.out.at_.blk 16 _ rfl) (Kept.setCell (S:=fun k => k = gp) (Kept.refl _ _) (p:=⟨gp,16,none⟩) (.inl rfl) _) ((Below.refl B _).setCell (p:=⟨gp,16,none⟩) Ll.out.at_.low _) (fun t => by by_cases ht:t = 1; (subst ht; rw [Pr.Ae,Pr.Ae]; rfl); (simp only [Pr.BP _ ht])) (fun t => by by_cases ht:t = 1; (subst ht; rw [Pr.Ae,Pr.Ae]; rfl); (simp only [Pr.BP _ ht])) rfl⟩ (fun uM hF => ?_)); (have JK:=Lib.hid hF); (clear hF Ll)) | (go_at_call 127; (have Bh:Calls Try.prog 127 #[.pointer (some ⟨gp,9,none⟩),.int .i64 1,.slice none 0 0] uM _:=LW JK.out.at_ 1 [] none 0 (Lu uM) (by decide) (by rw [Pr.Ae]; exact Gv.out)); (with_reducible refine Bh.mono ?_); clear Bh; rintro e w12 ⟨rfl,hM⟩; (have HM:=Lib.hid hM); clear hM; (have hu3:w12.cell? ⟨g7,3,none⟩ = some (.slice A7 0 c7):=cell_kept ((AA JK.out.t7 3).trans rfl) HM.out.choose_spec.choose_spec.choose_spec.2.2.1 (fun hx => hx.elim (fun x => JK.out.n7.1 x) (fun x => JK.out.n7.2.1 _ x)))))
 all_goals (go_ret; refine ⟨rfl,?_⟩; (have hM:=HM.out; rw [Pr.set_set,Pr.Ae,Pr.set_set] at hM; exact Moves.BQ JK.out.kept JK.out.below JK.out.grew hM (fun k hk => hk.elim (fun x => .inl (.inl x)) (fun x => (JK.out.grew.2 _ k x).elim (fun y => .inl (.inr (.inr y))) .inr))))
theorem Z31 {p:Prop} (h:p:=by
 have hb1:=Af HD.out.t7 0 (.bool hdb) (cs':=#[.bool hdb,.bool false,.bool false,.slice none 0 0]) rfl
 have hb2:=Af hb1 1 (.bool false) (cs':=#[.bool hdb,.bool false,.bool false,.slice none 0 0]) rfl
 have hb3:=Af hb2 2 (.bool false) (cs':=#[.bool hdb,.bool false,.bool false,.slice none 0 0]) rfl
 have hb4:=Af hb3 3 (.slice A7 nb c7) (cs':=#[.bool hdb,.bool false,.bool false,.slice A7 nb c7]) rfl
 exact hb4):p:=h
theorem SY {w:World} {B gp:Nat} {ge:Nat → Nat} {own:Nat → Nat → Prop} {X:Pr} {lv:Nat → Value} {wv:Value} (h:Dj w B gp ge own X lv wv) (i:Nat) (hi:i < X.way.length) (Fh:X.way.length ≤ 1024) (bt:Int) (p:Bz) (hf:X.way.getD i DI = ⟨0,bt,p⟩) (hbt:0 < bt ∧ bt < 4294967296) (hp:p.Good) (hok:(X.sd 0).end_.Ok) (hll:(X.sd 0).log.length ≤ 1000000) (kind side:Int) (vb:Value) (L':Lk) (hdb:Bool) (body:List Int) (hbl:body.length ≤ 1000000) (hpos:0 < body.length) (hT:Bf (X.sd 0).end_ bt p = (L',⟨hdb,false,false,body⟩)) :
  Calls Try.prog 112 #[.pointer (some ⟨gp,0,none⟩),.agg #[.int .i64 kind,.int .i64 side,.int .i64 (i:Int),vb]] w fun e w' => e = .returned (.int .i64 0) ∧ Moves w B gp ge own (({ X with way:=X.way.eraseIdx i }:Pr).set 0 (DZ (Ai (X.sd 0) L') 4 body)) (fun k => k = gp ∨ own 1 k ∨ own 3 k) w':=by
 have hba:Below w.heap.size w (w.alloc (.cells #[.int .i64 kind,.int .i64 side,.int .i64 (i:Int),vb] 72)):=(Below.refl _ _).alloc (Nat.le_refl _) _
 have hc2:(w.alloc (.cells #[.int .i64 kind,.int .i64 side,.int .i64 (i:Int),vb] 72)).cell? ⟨w.heap.size,2,none⟩ = some (.int .i64 (i:Int)):=(AA (heap_alloc_new w _) 2).trans rfl
 have J9:=Lib.hid (h.sub hba)
 have Ir:=Lib.hid hba
 have H:=Lib.hid h
 have HI:=Lib.hid hi
 have HL:=Lib.hid Fh
 have Um:=Lib.hid hf
 have Gf:=Lib.hid hbt
 have KE:=Lib.hid hp
 have OK:=Lib.hid hok
 have Gv:=Lib.hid hll
 have HT:=Lib.hid hT
 clear h hba hi Fh hf hbt hp hok hll hT
 have lS:=Lib.hid hbl
 have lT:=Lib.hid hpos
 clear hbl hpos
 generalize hnb:body.length = nb at *
 have Ez:=Lib.hid hnb
 clear hnb
 go_enter Try.func112,Try.ntmps112
 go_wp2_with (first | (go_at_call 128; (have hc:=KW J9.out i HI.out HL.out); rw [Um.out] at hc; (with_reducible refine hc.mono ?_); clear hc; rintro e w3 ⟨b3,rfl,FT,Qj⟩; (obtain ⟨Ab,cb,hb3⟩:=Kd.Am FT); (subst hb3); (obtain ⟨CQ,Ho,wv1,hP1,hg1,hk1,hb1⟩:=Qj); (have EU:=Lib.hid hP1); (have OL:=Lib.hid ((Grew.refl w own).trans Ir.out.size hg1)); (have MJ:=Lib.hid (show Kept w w3 (fun k => k = gp ∨ own 1 k ∨ own 3 k) from (Kept.of_below Ir.out _).BQ hk1 (fun k hk => .inl (.inl hk)))); (have HB1:=Lib.hid ((Ir.out.mono H.out.hB).trans hb1)); (have HR3:=Lib.hid (Kd.BV FT (fun k hk => hg1.1 5 k hk))); (have HZ3:=Lib.hid (heap_alloc_new w3 (.cells #[.int .i64 0,.int .u32 0,.int .i64 0,.int .u32 0,.int .u32 0,.int .u32 0,.int .u32 0,.int .u32 0,.int .u32 0,.int .u32 0,.complex .f64 0 0,.slice none 0 0] 150))); (have OM:=Lib.hid (show Below w3.heap.size w3 (w3.alloc (.cells #[.int .i64 0,.int .u32 0,.int .i64 0,.int .u32 0,.int .u32 0,.int .u32 0,.int .u32 0,.int .u32 0,.int .u32 0,.int .u32 0,.complex .f64 0 0,.slice none 0 0] 150)) from (Below.refl _ _).alloc (Nat.le_refl _) _)); (clear hP1 hg1 hk1 hb1 FT)) | ((with_reducible refine gate_ (.store 150 (.tmp 5) (.tmp 12)) rfl ?_); (refine Ad rfl rfl 150 (.tmp 5) (.tmp 12) rfl w3.heap.size #[.int .i64 0,.int .u32 bt,.int .i64 p.kind,.int .u32 p.mine,.int .u32 p.AB,.int .u32 p.yours,.int .u32 p.seq,.int .u32 p.AV,.int .u32 p.stamp,.int .u32 p.echo,.complex .f64 p.zr p.zi,.slice Ab p.body.length cb] rfl rfl 150 _ HZ3.out (by kernel_rfl) rfl (by kernel_rfl) ?_); (intro w4 hb4 Gt); (have HB4:=Lib.hid hb4); (have FP:=Lib.hid (Gt.below OM.out (Nat.le_refl _))); (have hd0:w4.cell? ⟨w3.heap.size,0,none⟩ = some (.int .i64 0):=(AA HB4.out 0).trans rfl); (clear hb4 Gt)))
 go_quiet (fail)
 rename Nat => nq1
 go_wp2_with fail
 have hbd:=AZ (Bd FP.out nq1)
 have hSS:(w4.drewN nq1).drew.heap[gp]? = some (.cells (BK ({ X with way:=X.way.eraseIdx i }:Pr) ge Ho wv1) 143 (0,0)) ∧ (w4.drewN nq1).drew.heap[w3.heap.size]? = some (.cells #[.int .i64 0,.int .u32 bt,.int .i64 p.kind,.int .u32 p.mine,.int .u32 p.AB,.int .u32 p.yours,.int .u32 p.seq,.int .u32 p.AV,.int .u32 p.stamp,.int .u32 p.echo,.complex .f64 p.zr p.zi,.slice Ab p.body.length cb] 150 (0,0)):=⟨(EU.out.sub hbd).blk,HB4.out⟩
 clear HB4 FP HZ3 OM hd0
 refine BA (n:=15) (S:=fun w' => w'.heap[gp]? = some (.cells (BK ({ X with way:=X.way.eraseIdx i }:Pr) ge Ho wv1) 143 (0,0)) ∧ w'.heap[w3.heap.size]? = some (.cells #[.int .i64 0,.int .u32 bt,.int .i64 p.kind,.int .u32 p.mine,.int .u32 p.AB,.int .u32 p.yours,.int .u32 p.seq,.int .u32 p.AV,.int .u32 p.stamp,.int .u32 p.echo,.complex .f64 p.zr p.zi,.slice Ab p.body.length cb] 150 (0,0))) (ds:=[13]) Vp (by kernel_rfl) rfl rfl (hSS) (fun hHeld => ?_)
 generalize (w4.drewN nq1).drew = w6 at hbd hHeld ⊢
 have BB:=Lib.hid hbd
 clear hbd
 refine pu 0 20 Vq ?_
 refine pu 1 21 Vr ?_
 refine pu 2 22 Vs ?_
 refine tk 3 23 Vt hHeld ?_ (hf:=by intro w' s0; have hc2:w'.cell? ⟨gp,0,none⟩ = some (.pointer (some ⟨ge 0,0,none⟩)):=(AA s0.1 0).trans rfl; clear s0; go_simp; rfl)
 refine pu 4 24 Vu ?_
 refine tk 5 25 Vw hHeld ?_ (hf:=by intro w' s0; have hc3:w'.cell? ⟨w3.heap.size,1,none⟩ = some (.int .u32 bt):=(AA s0.2 1).trans rfl; clear s0; go_simp; with_reducible rfl)
 refine pu 6 26 Vx ?_
 refine tk 7 27 Vy hHeld ?_ (hf:=by intro w' s0; have CP:=Try.underlying27; have hd2:w'.cell? ⟨w3.heap.size,2,none⟩ = some (.int .i64 p.kind):=(AA s0.2 2).trans rfl; have hd3:w'.cell? ⟨w3.heap.size,3,none⟩ = some (.int .u32 p.mine):=(AA s0.2 3).trans rfl; have hd4:w'.cell? ⟨w3.heap.size,4,none⟩ = some (.int .u32 p.AB):=(AA s0.2 4).trans rfl; have hd5:w'.cell? ⟨w3.heap.size,5,none⟩ = some (.int .u32 p.yours):=(AA s0.2 5).trans rfl; have hd6:w'.cell? ⟨w3.heap.size,6,none⟩ = some (.int .u32 p.seq):=(AA s0.2 6).trans rfl; have hd7:w'.cell? ⟨w3.heap.size,7,none⟩ = some (.int .u32 p.AV):=(AA s0.2 7).trans rfl; have hd8:w'.cell? ⟨w3.heap.size,8,none⟩ = some (.int .u32 p.stamp):=(AA s0.2 8).trans rfl; have hd9:w'.cell? ⟨w3.heap.size,9,none⟩ = some (.int .u32 p.echo):=(AA s0.2 9).trans rfl; have hd10:w'.cell? ⟨w3.heap.size,10,none⟩ = some (.complex .f64 p.zr p.zi):=(AA s0.2 10).trans rfl; have hd11:w'.cell? ⟨w3.heap.size,11,none⟩ = some (.slice Ab p.body.length cb):=(AA s0.2 11).trans rfl; clear s0; go_simp; try rfl)
 refine Lm (σ:=Nat × Option Addr × Nat) 2 Ql (fun s => [(28,.tuple #[.agg #[.bool hdb,.bool false,.bool false,.slice s.2.1 nb s.2.2],.int .i64 0]),(19,.tuple #[.agg #[.bool hdb,.bool false,.bool false,.slice s.2.1 nb s.2.2],.int .i64 0]),(29,.agg #[.bool hdb,.bool false,.bool false,.slice s.2.1 nb s.2.2]),(30,.int .i64 0),(7,.pointer (some ⟨s.1,0,none⟩))]) (fun s w' => aI w B gp ge own (({ X with way:=X.way.eraseIdx i }:Pr).set 0 (Ai (X.sd 0) L')) (fun k => k = gp ∨ own 1 k ∨ own 3 k) s.1 (.slice s.2.1 nb s.2.2) body #[.bool false,.bool false,.bool false,.slice none 0 0] w') ?_ ?_
 rotate_left
 ·intro hcont
  refine OY (i:=8) (j:=12) (Ni:=some 28) (Nj:=some 7) Vz eP rfl rfl rfl rfl (by kernel_rfl) (by decide) (by decide) (fun K hK => ?_) (fun K hK => ?_)
  ·skip
   have hQ6:=(EU.out.sub BB.out)
   refine BH Try.func34 (by kernel_rfl) rfl #[.pointer (some ⟨ge 0,0,none⟩),.int .u32 bt,.agg #[.int .i64 p.kind,.int .u32 p.mine,.int .u32 p.AB,.int .u32 p.yours,.int .u32 p.seq,.int .u32 p.AV,.int .u32 p.stamp,.int .u32 p.echo,.complex .f64 p.zr p.zi,.slice Ab p.body.length cb]] (by rfl) rfl rfl (by (try simp only [List.map_toArray,List.map_cons,List.map_nil]); first | done | rfl) ?_
   have Bh:Calls Try.prog 34 #[.pointer (some ⟨ge 0,0,none⟩),.int .u32 bt,.agg #[.int .i64 p.kind,.int .u32 p.mine,.int .u32 p.AB,.int .u32 p.yours,.int .u32 p.seq,.int .u32 p.AV,.int .u32 p.stamp,.int .u32 p.echo,.complex .f64 p.zr p.zi,.slice Ab p.body.length cb]] w6 _:=DL (hQ6.e 0 (by decide)) hQ6.hB OK.out bt p Gf.out KE.out (cs:=cells p (.slice Ab p.body.length cb)) (CY:=CQ 5) (DY.2 ⟨_,rfl,Kd.BJ HR3.out (Kept.of_below BB.out (fun _ => False)) (fun _ _ hf => hf)⟩) (fun k hx hy => by have:=hQ6.EF 5 (1 + 0) k hx hy; omega)
   refine Bh.mono ?_
   clear Bh
   intro e w7 Ic
   have JJ:En w6 B (CQ (1 + 0)) (ge 0) (L',⟨hdb,false,false,body⟩) e w7:=by
    have hh:=HT.out
    rw [← hh]
    exact Ic
   clear Ic
   obtain ⟨v7,rfl,⟨A7,c7,hv7⟩,hD⟩:=DV.behind (cs:=#[.bool false,.bool false,.bool false,.slice none 0 0]) (s:=0) (by decide) hQ6 OL.out (MJ.out.below BB.out) (HB1.out.trans (BB.out.mono EU.out.hB)) (fun k hk => (OL.out.2 _ k hk).elim (fun x => .inl (.inr (.inl x))) .inr) JJ
   have ZR:v7 = .slice A7 nb c7:=by rw [hv7]; exact congrArg (fun x => Value.slice A7 x c7) Ez.out
   exact Z3
  ·skip
   refine EZ (by rfl) (N:=7) rfl (cs:=#[.bool false,.bool false,.bool false,.slice none 0 0]) (t:=56) (by first | (go_simp; done) | (go_simp; rfl)) ?_
   intro g7 Md w8 hbx hb8
   have Kz:w8.heap[gp]? = some (.cells (BK ({ X with way:=X.way.eraseIdx i }:Pr) ge Ho wv1) 143 (0,0)) ∧ w8.heap[w3.heap.size]? = some (.cells #[.int .i64 0,.int .u32 bt,.int .i64 p.kind,.int .u32 p.mine,.int .u32 p.AB,.int .u32 p.yours,.int .u32 p.seq,.int .u32 p.AV,.int .u32 p.stamp,.int .u32 p.echo,.complex .f64 p.zr p.zi,.slice Ab p.body.length cb] 150 (0,0)):=⟨(hb8.block gp (AQ hHeld.1)).trans hHeld.1,(hb8.block _ (AQ hHeld.2)).trans hHeld.2⟩
   have Un:=Lib.hid ((EU.out.sub BB.out).sub hb8)
   have GY:=AQ (EU.out.sub BB.out).blk
   have Uo:=BB.out.size
   have hz3:=MJ.out.1
   have QX:=Lib.hid (show w8.heap[g7]? = some (.cells #[.bool false,.bool false,.bool false,.slice none 0 0] 56 (0,0)) ∧ (g7 ≠ gp ∧ ∀ i,¬ CQ i g7) ∧ w.heap.size ≤ g7 from ⟨hbx,⟨by omega,fun i hi => by have:=(EU.out.sub BB.out).lt i g7 hi; omega⟩,by omega⟩)
   have Il:=Lib.hid hb8
   clear hbx GY Uo hz3 hHeld Md
   clear hb8
   refine hK.out _ _ Kz (fun hHeld => ?_)
   clear hK K Kz
   refine nm 7 ?_
   refine on 8 (some 28) eU fun K hK => ?_
   have hQ6:=Un.out
   refine BH Try.func34 (by kernel_rfl) rfl #[.pointer (some ⟨ge 0,0,none⟩),.int .u32 bt,.agg #[.int .i64 p.kind,.int .u32 p.mine,.int .u32 p.AB,.int .u32 p.yours,.int .u32 p.seq,.int .u32 p.AV,.int .u32 p.stamp,.int .u32 p.echo,.complex .f64 p.zr p.zi,.slice Ab p.body.length cb]] (by rfl) rfl rfl (by (try simp only [List.map_toArray,List.map_cons,List.map_nil]); first | done | rfl) ?_
   have Bh:Calls Try.prog 34 #[.pointer (some ⟨ge 0,0,none⟩),.int .u32 bt,.agg #[.int .i64 p.kind,.int .u32 p.mine,.int .u32 p.AB,.int .u32 p.yours,.int .u32 p.seq,.int .u32 p.AV,.int .u32 p.stamp,.int .u32 p.echo,.complex .f64 p.zr p.zi,.slice Ab p.body.length cb]] w8 _:=DL (hQ6.e 0 (by decide)) hQ6.hB OK.out bt p Gf.out KE.out (cs:=cells p (.slice Ab p.body.length cb)) (CY:=CQ 5) (DY.2 ⟨_,rfl,Kd.BJ HR3.out (Kept.of_below (BB.out.trans (Il.out.mono BB.out.size)) (fun _ => False)) (fun _ _ hf => hf)⟩) (fun k hx hy => by have:=hQ6.EF 5 (1 + 0) k hx hy; omega)
   refine Bh.mono ?_
   clear Bh
   intro e w7 Ic
   have JJ:En w8 B (CQ (1 + 0)) (ge 0) (L',⟨hdb,false,false,body⟩) e w7:=by
    have hh:=HT.out
    rw [← hh]
    exact Ic
   clear Ic
   obtain ⟨v7,rfl,⟨A7,c7,hv7⟩,hD⟩:=DV.ahead (s:=0) (by decide) hQ6 OL.out (MJ.out.below (BB.out.trans (Il.out.mono BB.out.size))) (HB1.out.trans ((BB.out.trans (Il.out.mono BB.out.size)).mono EU.out.hB)) (fun k hk => (OL.out.2 _ k hk).elim (fun x => .inl (.inr (.inl x))) .inr) QX.out.1 QX.out.2.1 QX.out.2.2 JJ
   have ZR:v7 = .slice A7 nb c7:=by rw [hv7]; exact congrArg (fun x => Value.slice A7 x c7) Ez.out
   exact Z8
 intro s9 w9 hF
 obtain ⟨g7,A7,c7⟩:=s9
 obtain ⟨Jg,QW,wv2,okb,hD⟩:=hF
 have HD:=Lib.hid hD
 clear hD
 refine Ig (a':=?_) ?_ ?_
 rotate_left
 ·show Dk _ _ = _
  simp only [Dk,Act.put,sA,sZ,sS]
  rfl
 have hc0:w9.cell? ⟨g7,0,none⟩ = some (.bool false):=(AA HD.out.t7 0).trans rfl
 have hf0:=AL HD.out.t7 0
 have hc1:w9.cell? ⟨g7,1,none⟩ = some (.bool false):=(AA HD.out.t7 1).trans rfl
 have hf1:=AL HD.out.t7 1
 have hc2:w9.cell? ⟨g7,2,none⟩ = some (.bool false):=(AA HD.out.t7 2).trans rfl
 have hf2:=AL HD.out.t7 2
 have hc3:w9.cell? ⟨g7,3,none⟩ = some (.slice none 0 0):=(AA HD.out.t7 3).trans rfl
 have hf3:=AL HD.out.t7 3
 refine la 13 none XW fun K hK => ?_
 refine CG (fun wz => wz.heap[g7]? = some (.cells #[.bool hdb,.bool false,.bool false,.slice A7 nb c7] 56 (0,0)) ∧ Steps.At g7 w9 wz) (by rfl) rfl ⟨_,by go_simp; rfl,?_,?_⟩ (fun w10 hF => ?_)
 ·skip
  exact Z31
 ·repeat (first | (with_reducible exact Steps.At.refl _ _) | refine Steps.At.set ?_ _ _)
 have DJ:=Lib.hid (HD.out.write H.out.hB hF.1 hF.2)
 clear hF HD hc0 hf0 hc1 hf1 hc2 hf2 hc3 hf3
 refine hK.out _ _ ?_
 clear hK K
 refine pu 14 8 XX ?_
 refine BG (by kernel_rfl) ?_
 have ht1:w10.cell? ⟨g7,1,none⟩ = some (.bool false):=(AA DJ.out.t7 1).trans rfl
 have ht2:w10.cell? ⟨g7,2,none⟩ = some (.bool false):=(AA DJ.out.t7 2).trans rfl
 have ht3:w10.cell? ⟨g7,3,none⟩ = some (.slice A7 nb c7):=(AA DJ.out.t7 3).trans rfl
 have hpos:=lT.out
 have hpz:(0:Int) < (nb:Int):=by omega
 go_wp2_with (go_at_call 127; (have Bh:=LV DJ.out.at_ 4 body A7 c7 (by have hR:=DJ.out.row; rw [← Ez.out] at hR; exact (Kd.Bi hR).2.2) (by rw [Ez.out]; exact lS.out) (by rw [Pr.Ae]; exact Gv.out)); (rw [Ez.out] at Bh); (with_reducible refine Bh.mono ?_); clear Bh; rintro e w12 ⟨rfl,hM⟩; (have HM:=Lib.hid hM); clear hM)
 all_goals (go_ret; refine ⟨rfl,?_⟩)
 exact wY
theorem Si {w:World} {B gp:Nat} {ge:Nat → Nat} {own:Nat → Nat → Prop} {X:Pr} {lv:Nat → Value} {wv:Value} (h:Dj w B gp ge own X lv wv) (i:Nat) (hi:i < X.way.length) (Fh:X.way.length ≤ 1024) (bt:Int) (p:Bz) (hf:X.way.getD i DI = ⟨1,bt,p⟩) (hbt:0 < bt ∧ bt < 4294967296) (hp:p.Good) (hok:(X.sd 1).end_.Ok) (hll:(X.sd 1).log.length ≤ 1000000) (kind side:Int) (vb:Value) (L':Lk) (hdb:Bool) (body:List Int) (hbl:body.length ≤ 1000000) (hpos:0 < body.length) (hT:Bf (X.sd 1).end_ bt p = (L',⟨hdb,false,false,body⟩)) :
  Calls Try.prog 112 #[.pointer (some ⟨gp,0,none⟩),.agg #[.int .i64 kind,.int .i64 side,.int .i64 (i:Int),vb]] w fun e w' => e = .returned (.int .i64 0) ∧ Moves w B gp ge own (({ X with way:=X.way.eraseIdx i }:Pr).set 1 (DZ (Ai (X.sd 1) L') 4 body)) (fun k => k = gp ∨ own 2 k ∨ own 4 k) w':=by
 have hba:Below w.heap.size w (w.alloc (.cells #[.int .i64 kind,.int .i64 side,.int .i64 (i:Int),vb] 72)):=(Below.refl _ _).alloc (Nat.le_refl _) _
 have hc2:(w.alloc (.cells #[.int .i64 kind,.int .i64 side,.int .i64 (i:Int),vb] 72)).cell? ⟨w.heap.size,2,none⟩ = some (.int .i64 (i:Int)):=(AA (heap_alloc_new w _) 2).trans rfl
 have J9:=Lib.hid (h.sub hba)
 have Ir:=Lib.hid hba
 have H:=Lib.hid h
 have HI:=Lib.hid hi
 have HL:=Lib.hid Fh
 have Um:=Lib.hid hf
 have Gf:=Lib.hid hbt
 have KE:=Lib.hid hp
 have OK:=Lib.hid hok
 have Gv:=Lib.hid hll
 have HT:=Lib.hid hT
 clear h hba hi Fh hf hbt hp hok hll hT
 have lS:=Lib.hid hbl
 have lT:=Lib.hid hpos
 clear hbl hpos
 generalize hnb:body.length = nb at *
 have Ez:=Lib.hid hnb
 clear hnb
 go_enter Try.func112,Try.ntmps112
 go_wp2_with (first | (go_at_call 128; (have hc:=KW J9.out i HI.out HL.out); rw [Um.out] at hc; (with_reducible refine hc.mono ?_); clear hc; rintro e w3 ⟨b3,rfl,FT,Qj⟩; (obtain ⟨Ab,cb,hb3⟩:=Kd.Am FT); (subst hb3); (obtain ⟨CQ,Ho,wv1,hP1,hg1,hk1,hb1⟩:=Qj); (have EU:=Lib.hid hP1); (have OL:=Lib.hid ((Grew.refl w own).trans Ir.out.size hg1)); (have MJ:=Lib.hid (show Kept w w3 (fun k => k = gp ∨ own 2 k ∨ own 4 k) from (Kept.of_below Ir.out _).BQ hk1 (fun k hk => .inl (.inl hk)))); (have HB1:=Lib.hid ((Ir.out.mono H.out.hB).trans hb1)); (have HR3:=Lib.hid (Kd.BV FT (fun k hk => hg1.1 5 k hk))); (have HZ3:=Lib.hid (heap_alloc_new w3 (.cells #[.int .i64 0,.int .u32 0,.int .i64 0,.int .u32 0,.int .u32 0,.int .u32 0,.int .u32 0,.int .u32 0,.int .u32 0,.int .u32 0,.complex .f64 0 0,.slice none 0 0] 150))); (have OM:=Lib.hid (show Below w3.heap.size w3 (w3.alloc (.cells #[.int .i64 0,.int .u32 0,.int .i64 0,.int .u32 0,.int .u32 0,.int .u32 0,.int .u32 0,.int .u32 0,.int .u32 0,.int .u32 0,.complex .f64 0 0,.slice none 0 0] 150)) from (Below.refl _ _).alloc (Nat.le_refl _) _)); (clear hP1 hg1 hk1 hb1 FT)) | ((with_reducible refine gate_ (.store 150 (.tmp 5) (.tmp 12)) rfl ?_); (refine Ad rfl rfl 150 (.tmp 5) (.tmp 12) rfl w3.heap.size #[.int .i64 1,.int .u32 bt,.int .i64 p.kind,.int .u32 p.mine,.int .u32 p.AB,.int .u32 p.yours,.int .u32 p.seq,.int .u32 p.AV,.int .u32 p.stamp,.int .u32 p.echo,.complex .f64 p.zr p.zi,.slice Ab p.body.length cb] rfl rfl 150 _ HZ3.out (by kernel_rfl) rfl (by kernel_rfl) ?_); (intro w4 hb4 Gt); (have HB4:=Lib.hid hb4); (have FP:=Lib.hid (Gt.below OM.out (Nat.le_refl _))); (have hd0:w4.cell? ⟨w3.heap.size,0,none⟩ = some (.int .i64 1):=(AA HB4.out 0).trans rfl); (clear hb4 Gt)))
 go_quiet (fail)
 rename Nat => nq1
 go_wp2_with fail
 have hbd:=AZ (Bd FP.out nq1)
 have hSS:(w4.drewN nq1).drew.heap[gp]? = some (.cells (BK ({ X with way:=X.way.eraseIdx i }:Pr) ge Ho wv1) 143 (0,0)) ∧ (w4.drewN nq1).drew.heap[w3.heap.size]? = some (.cells #[.int .i64 1,.int .u32 bt,.int .i64 p.kind,.int .u32 p.mine,.int .u32 p.AB,.int .u32 p.yours,.int .u32 p.seq,.int .u32 p.AV,.int .u32 p.stamp,.int .u32 p.echo,.complex .f64 p.zr p.zi,.slice Ab p.body.length cb] 150 (0,0)):=⟨(EU.out.sub hbd).blk,HB4.out⟩
 clear HB4 FP HZ3 OM hd0
 refine BA (n:=15) (S:=fun w' => w'.heap[gp]? = some (.cells (BK ({ X with way:=X.way.eraseIdx i }:Pr) ge Ho wv1) 143 (0,0)) ∧ w'.heap[w3.heap.size]? = some (.cells #[.int .i64 1,.int .u32 bt,.int .i64 p.kind,.int .u32 p.mine,.int .u32 p.AB,.int .u32 p.yours,.int .u32 p.seq,.int .u32 p.AV,.int .u32 p.stamp,.int .u32 p.echo,.complex .f64 p.zr p.zi,.slice Ab p.body.length cb] 150 (0,0))) (ds:=[13]) Vp (by kernel_rfl) rfl rfl (hSS) (fun hHeld => ?_)
 generalize (w4.drewN nq1).drew = w6 at hbd hHeld ⊢
 have BB:=Lib.hid hbd
 clear hbd
 refine pu 0 20 Vq ?_
 refine pu 1 21 Vr ?_
 refine pu 2 22 Vs ?_
 refine tk 3 23 Vt hHeld ?_ (hf:=by intro w' s0; have hc2:w'.cell? ⟨gp,9,none⟩ = some (.pointer (some ⟨ge 1,0,none⟩)):=(AA s0.1 9).trans rfl; clear s0; go_simp; rfl)
 refine pu 4 24 Vu ?_
 refine tk 5 25 Vw hHeld ?_ (hf:=by intro w' s0; have hc3:w'.cell? ⟨w3.heap.size,1,none⟩ = some (.int .u32 bt):=(AA s0.2 1).trans rfl; clear s0; go_simp; with_reducible rfl)
 refine pu 6 26 Vx ?_
 refine tk 7 27 Vy hHeld ?_ (hf:=by intro w' s0; have CP:=Try.underlying27; have hd2:w'.cell? ⟨w3.heap.size,2,none⟩ = some (.int .i64 p.kind):=(AA s0.2 2).trans rfl; have hd3:w'.cell? ⟨w3.heap.size,3,none⟩ = some (.int .u32 p.mine):=(AA s0.2 3).trans rfl; have hd4:w'.cell? ⟨w3.heap.size,4,none⟩ = some (.int .u32 p.AB):=(AA s0.2 4).trans rfl; have hd5:w'.cell? ⟨w3.heap.size,5,none⟩ = some (.int .u32 p.yours):=(AA s0.2 5).trans rfl; have hd6:w'.cell? ⟨w3.heap.size,6,none⟩ = some (.int .u32 p.seq):=(AA s0.2 6).trans rfl; have hd7:w'.cell? ⟨w3.heap.size,7,none⟩ = some (.int .u32 p.AV):=(AA s0.2 7).trans rfl; have hd8:w'.cell? ⟨w3.heap.size,8,none⟩ = some (.int .u32 p.stamp):=(AA s0.2 8).trans rfl; have hd9:w'.cell? ⟨w3.heap.size,9,none⟩ = some (.int .u32 p.echo):=(AA s0.2 9).trans rfl; have hd10:w'.cell? ⟨w3.heap.size,10,none⟩ = some (.complex .f64 p.zr p.zi):=(AA s0.2 10).trans rfl; have hd11:w'.cell? ⟨w3.heap.size,11,none⟩ = some (.slice Ab p.body.length cb):=(AA s0.2 11).trans rfl; clear s0; go_simp; try rfl)
 refine Lm (σ:=Nat × Option Addr × Nat) 2 Ql (fun s => [(28,.tuple #[.agg #[.bool hdb,.bool false,.bool false,.slice s.2.1 nb s.2.2],.int .i64 0]),(19,.tuple #[.agg #[.bool hdb,.bool false,.bool false,.slice s.2.1 nb s.2.2],.int .i64 0]),(29,.agg #[.bool hdb,.bool false,.bool false,.slice s.2.1 nb s.2.2]),(30,.int .i64 0),(7,.pointer (some ⟨s.1,0,none⟩))]) (fun s w' => aI w B gp ge own (({ X with way:=X.way.eraseIdx i }:Pr).set 1 (Ai (X.sd 1) L')) (fun k => k = gp ∨ own 2 k ∨ own 4 k) s.1 (.slice s.2.1 nb s.2.2) body #[.bool false,.bool false,.bool false,.slice none 0 0] w') ?_ ?_
 rotate_left
 ·intro hcont
  refine OY (i:=8) (j:=12) (Ni:=some 28) (Nj:=some 7) Vz eP rfl rfl rfl rfl (by kernel_rfl) (by decide) (by decide) (fun K hK => ?_) (fun K hK => ?_)
  ·skip
   have hQ6:=(EU.out.sub BB.out)
   refine BH Try.func34 (by kernel_rfl) rfl #[.pointer (some ⟨ge 1,0,none⟩),.int .u32 bt,.agg #[.int .i64 p.kind,.int .u32 p.mine,.int .u32 p.AB,.int .u32 p.yours,.int .u32 p.seq,.int .u32 p.AV,.int .u32 p.stamp,.int .u32 p.echo,.complex .f64 p.zr p.zi,.slice Ab p.body.length cb]] (by rfl) rfl rfl (by (try simp only [List.map_toArray,List.map_cons,List.map_nil]); first | done | rfl) ?_
   have Bh:Calls Try.prog 34 #[.pointer (some ⟨ge 1,0,none⟩),.int .u32 bt,.agg #[.int .i64 p.kind,.int .u32 p.mine,.int .u32 p.AB,.int .u32 p.yours,.int .u32 p.seq,.int .u32 p.AV,.int .u32 p.stamp,.int .u32 p.echo,.complex .f64 p.zr p.zi,.slice Ab p.body.length cb]] w6 _:=DL (hQ6.e 1 (by decide)) hQ6.hB OK.out bt p Gf.out KE.out (cs:=cells p (.slice Ab p.body.length cb)) (CY:=CQ 5) (DY.2 ⟨_,rfl,Kd.BJ HR3.out (Kept.of_below BB.out (fun _ => False)) (fun _ _ hf => hf)⟩) (fun k hx hy => by have:=hQ6.EF 5 (1 + 1) k hx hy; omega)
   refine Bh.mono ?_
   clear Bh
   intro e w7 Ic
   have JJ:En w6 B (CQ (1 + 1)) (ge 1) (L',⟨hdb,false,false,body⟩) e w7:=by
    have hh:=HT.out
    rw [← hh]
    exact Ic
   clear Ic
   obtain ⟨v7,rfl,⟨A7,c7,hv7⟩,hD⟩:=DV.behind (cs:=#[.bool false,.bool false,.bool false,.slice none 0 0]) (s:=1) (by decide) hQ6 OL.out (MJ.out.below BB.out) (HB1.out.trans (BB.out.mono EU.out.hB)) (fun k hk => (OL.out.2 _ k hk).elim (fun x => .inl (.inr (.inl x))) .inr) JJ
   have ZR:v7 = .slice A7 nb c7:=by rw [hv7]; exact congrArg (fun x => Value.slice A7 x c7) Ez.out
   exact Z4
  ·skip
   refine EZ (by rfl) (N:=7) rfl (cs:=#[.bool false,.bool false,.bool false,.slice none 0 0]) (t:=56) (by first | (go_simp; done) | (go_simp; rfl)) ?_
   intro g7 Md w8 hbx hb8
   have Kz:w8.heap[gp]? = some (.cells (BK ({ X with way:=X.way.eraseIdx i }:Pr) ge Ho wv1) 143 (0,0)) ∧ w8.heap[w3.heap.size]? = some (.cells #[.int .i64 1,.int .u32 bt,.int .i64 p.kind,.int .u32 p.mine,.int .u32 p.AB,.int .u32 p.yours,.int .u32 p.seq,.int .u32 p.AV,.int .u32 p.stamp,.int .u32 p.echo,.complex .f64 p.zr p.zi,.slice Ab p.body.length cb] 150 (0,0)):=⟨(hb8.block gp (AQ hHeld.1)).trans hHeld.1,(hb8.block _ (AQ hHeld.2)).trans hHeld.2⟩
   have Un:=Lib.hid ((EU.out.sub BB.out).sub hb8)
   have GY:=AQ (EU.out.sub BB.out).blk
   have Uo:=BB.out.size
   have hz3:=MJ.out.1
   have QX:=Lib.hid (show w8.heap[g7]? = some (.cells #[.bool false,.bool false,.bool false,.slice none 0 0] 56 (0,0)) ∧ (g7 ≠ gp ∧ ∀ i,¬ CQ i g7) ∧ w.heap.size ≤ g7 from ⟨hbx,⟨by omega,fun i hi => by have:=(EU.out.sub BB.out).lt i g7 hi; omega⟩,by omega⟩)
   have Il:=Lib.hid hb8
   clear hbx GY Uo hz3 hHeld Md
   clear hb8
   refine hK.out _ _ Kz (fun hHeld => ?_)
   clear hK K Kz
   refine nm 7 ?_
   refine on 8 (some 28) eU fun K hK => ?_
   have hQ6:=Un.out
   refine BH Try.func34 (by kernel_rfl) rfl #[.pointer (some ⟨ge 1,0,none⟩),.int .u32 bt,.agg #[.int .i64 p.kind,.int .u32 p.mine,.int .u32 p.AB,.int .u32 p.yours,.int .u32 p.seq,.int .u32 p.AV,.int .u32 p.stamp,.int .u32 p.echo,.complex .f64 p.zr p.zi,.slice Ab p.body.length cb]] (by rfl) rfl rfl (by (try simp only [List.map_toArray,List.map_cons,List.map_nil]); first | done | rfl) ?_
   have Bh:Calls Try.prog 34 #[.pointer (some ⟨ge 1,0,none⟩),.int .u32 bt,.agg #[.int .i64 p.kind,.int .u32 p.mine,.int .u32 p.AB,.int .u32 p.yours,.int .u32 p.seq,.int .u32 p.AV,.int .u32 p.stamp,.int .u32 p.echo,.complex .f64 p.zr p.zi,.slice Ab p.body.length cb]] w8 _:=DL (hQ6.e 1 (by decide)) hQ6.hB OK.out bt p Gf.out KE.out (cs:=cells p (.slice Ab p.body.length cb)) (CY:=CQ 5) (DY.2 ⟨_,rfl,Kd.BJ HR3.out (Kept.of_below (BB.out.trans (Il.out.mono BB.out.size)) (fun _ => False)) (fun _ _ hf => hf)⟩) (fun k hx hy => by have:=hQ6.EF 5 (1 + 1) k hx hy; omega)
   refine Bh.mono ?_
   clear Bh
   intro e w7 Ic
   have JJ:En w8 B (CQ (1 + 1)) (ge 1) (L',⟨hdb,false,false,body⟩) e w7:=by
    have hh:=HT.out
    rw [← hh]
    exact Ic
   clear Ic
   obtain ⟨v7,rfl,⟨A7,c7,hv7⟩,hD⟩:=DV.ahead (s:=1) (by decide) hQ6 OL.out (MJ.out.below (BB.out.trans (Il.out.mono BB.out.size))) (HB1.out.trans ((BB.out.trans (Il.out.mono BB.out.size)).mono EU.out.hB)) (fun k hk => (OL.out.2 _ k hk).elim (fun x => .inl (.inr (.inl x))) .inr) QX.out.1 QX.out.2.1 QX.out.2.2 JJ
   have ZR:v7 = .slice A7 nb c7:=by rw [hv7]; exact congrArg (fun x => Value.slice A7 x c7) Ez.out
   exact Z9
 intro s9 w9 hF
 obtain ⟨g7,A7,c7⟩:=s9
 obtain ⟨Jg,QW,wv2,okb,hD⟩:=hF
 have HD:=Lib.hid hD
 clear hD
 refine Ig (a':=?_) ?_ ?_
 rotate_left
 ·show Dk _ _ = _
  simp only [Dk,Act.put,sA,sZ,sS]
  rfl
 have hc0:w9.cell? ⟨g7,0,none⟩ = some (.bool false):=(AA HD.out.t7 0).trans rfl
 have hf0:=AL HD.out.t7 0
 have hc1:w9.cell? ⟨g7,1,none⟩ = some (.bool false):=(AA HD.out.t7 1).trans rfl
 have hf1:=AL HD.out.t7 1
 have hc2:w9.cell? ⟨g7,2,none⟩ = some (.bool false):=(AA HD.out.t7 2).trans rfl
 have hf2:=AL HD.out.t7 2
 have hc3:w9.cell? ⟨g7,3,none⟩ = some (.slice none 0 0):=(AA HD.out.t7 3).trans rfl
 have hf3:=AL HD.out.t7 3
 refine la 13 none XW fun K hK => ?_
 refine CG (fun wz => wz.heap[g7]? = some (.cells #[.bool hdb,.bool false,.bool false,.slice A7 nb c7] 56 (0,0)) ∧ Steps.At g7 w9 wz) (by rfl) rfl ⟨_,by go_simp; rfl,?_,?_⟩ (fun w10 hF => ?_)
 ·skip
  exact Z31
 ·repeat (first | (with_reducible exact Steps.At.refl _ _) | refine Steps.At.set ?_ _ _)
 have DJ:=Lib.hid (HD.out.write H.out.hB hF.1 hF.2)
 clear hF HD hc0 hf0 hc1 hf1 hc2 hf2 hc3 hf3
 refine hK.out _ _ ?_
 clear hK K
 refine pu 14 8 XX ?_
 refine BG (by kernel_rfl) ?_
 have ht1:w10.cell? ⟨g7,1,none⟩ = some (.bool false):=(AA DJ.out.t7 1).trans rfl
 have ht2:w10.cell? ⟨g7,2,none⟩ = some (.bool false):=(AA DJ.out.t7 2).trans rfl
 have ht3:w10.cell? ⟨g7,3,none⟩ = some (.slice A7 nb c7):=(AA DJ.out.t7 3).trans rfl
 have hpos:=lT.out
 have hpz:(0:Int) < (nb:Int):=by omega
 go_wp2_with (go_at_call 127; (have Bh:=LW DJ.out.at_ 4 body A7 c7 (by have hR:=DJ.out.row; rw [← Ez.out] at hR; exact (Kd.Bi hR).2.2) (by rw [Ez.out]; exact lS.out) (by rw [Pr.Ae]; exact Gv.out)); (rw [Ez.out] at Bh); (with_reducible refine Bh.mono ?_); clear Bh; rintro e w12 ⟨rfl,hM⟩; (have HM:=Lib.hid hM); clear hM)
 all_goals (go_ret; refine ⟨rfl,?_⟩)
 exact wY
end Go.Proofs.Ytnkkgofpifhoeaa.Pr
end
section
namespace Go.Proofs.Ytnkkgofpifhoeaa.Pr
open Go.RowKit Go.Proofs.Ytnkkgofpifhoeaa.Base Go.Proofs.Ytnkkgofpifhoeaa.Steps Go.Proofs.YtnkkgofpifhoeaaW.PrintWords Go.Proofs.YtnkkgofpifhoeaaW.PrintLast
theorem Qa (k:Int):MapKept.IsKey (.int .i64) (.int .i64 k):=by simp [MapKept.IsKey]
def MK (es:Array MapEntry) (clk:Nat) (k:Int) (v:Value):Array MapEntry:=es.push { key:=.int .i64 k,val:=v,born:=clk }
def KA (es:Array MapEntry) (k:Int):Option (Option (Nat × Value)):=Instr.findNow (.int .i64) (.int .i64 k) es.toList 0
theorem JL {w:World} {r clk:Nat} {es:Array MapEntry} (hb:w.heap[r]? = some (.map es clk)) (k:Int) (v:Value) (h:KA es k = some none) :
  ∃ w1,(Instr.mapUpdate 146 (.map (some r)) (.int .i64 k) v).run Try.prog w = .ok () w1 ∧ w1.heap[r]? = some (.map (MK es clk k v) (clk + 1)) ∧ At r w w1:=by
 unfold KA at h
 refine ⟨{ w with heap:=w.heap.setIfInBounds r (.map (MK es clk k v) (clk + 1)) },?_,?_,?_⟩
 ·simp [Instr.mapUpdate,run_underlying Try.underlying146,MapKept.run_getObj_map hb,MapKept.run_checkKey Try.underlying3 (Qa k),MapKept.run_findKey Try.underlying3 h,MapKept.run_setObj_map _ hb,Result.andThen,MK]
 ·have:=AQ hb
  simp [Array.getElem?_setIfInBounds,this]
 ·refine ⟨rfl,rfl,rfl,by simp,fun i hi => ?_⟩
  have:r ≠ i:=fun e => hi e.symm
  simp [Array.getElem?_setIfInBounds,this]
theorem G6 {w:World} {r clk:Nat} {es:Array MapEntry} (hb:w.heap[r]? = some (.map es clk)) (k:Int) (i:Nat) (v:Value) (h:KA es k = some (some (i,v))) :
  (Instr.lookup 146 (.map (some r)) (.int .i64 k) true).run Try.prog w = .ok (.tuple #[v,.bool true]) w:=by
 unfold KA at h
 simp [Instr.lookup,run_underlying Try.underlying146,MapKept.run_getObj_map hb,MapKept.run_checkKey Try.underlying3 (Qa k),MapKept.run_findKey Try.underlying3 h,Result.andThen]
def Ur:Array MapEntry:=#[]
def Us:Array MapEntry:=MK Ur 0 1 (.func (.func 107) #[] #[])
def Ut:Array MapEntry:=MK Us 1 2 (.func (.func 108) #[] #[])
def Uu:Array MapEntry:=MK Ut 2 3 (.func (.func 109) #[] #[])
def Uw:Array MapEntry:=MK Uu 3 4 (.func (.func 110) #[] #[])
def Ux:Array MapEntry:=MK Uw 4 5 (.func (.func 111) #[] #[])
def Uy:Array MapEntry:=MK Ux 5 6 (.func (.func 112) #[] #[])
def Uz:Array MapEntry:=MK Uy 6 7 (.func (.func 113) #[] #[])
def ED:Array MapEntry:=MK Uz 7 8 (.func (.func 114) #[] #[])
theorem JY (w:World):Calls Try.prog 82 #[] w fun e w' => e = .returned (.map (some w.heap.size)) ∧ w'.heap[w.heap.size]? = some (.map ED 8) ∧ Below w.heap.size w w':=by
 have hmm:=run_makeMap (P:=Try.prog) 146 w
 have HM0:=Lib.hid (show (w.alloc (.map #[] 0)).heap[w.heap.size]? = some (.map Ur 0) from heap_alloc_new w _)
 have HB0:=Lib.hid (show Below w.heap.size w (w.alloc (.map #[] 0)) from (Below.refl _ _).alloc (Nat.le_refl _) _)
 go_enter Try.func82,Try.ntmps82
 go_wp2_with (first | ((with_reducible refine gate_ (.insert 146 (.tmp 1) (.const (.int .i64 1)) (.func 107)) rfl ?_); (obtain ⟨wi,hrun,hm,hat⟩:=JL HM0.out 1 (.func (.func 107) #[] #[]) (by rfl)); (refine AU (fun wz => wz.heap[w.heap.size]? = some (.map Us 1) ∧ Below w.heap.size w wz) rfl rfl ⟨wi,(by first | (go_simp; done) | (go_simp; rfl) | (simp [execOp,hrun]; done)),hm,hat.below HB0.out (Nat.le_refl _)⟩ (fun w1 hF => ?_)); (clear hrun hm hat); (have HM1:=Lib.hid hF.1); (have HB1:=Lib.hid hF.2); (clear hF)) | ((with_reducible refine gate_ (.insert 146 (.tmp 1) (.const (.int .i64 2)) (.func 108)) rfl ?_); (obtain ⟨wi,hrun,hm,hat⟩:=JL HM1.out 2 (.func (.func 108) #[] #[]) (by rfl)); (refine AU (fun wz => wz.heap[w.heap.size]? = some (.map Ut 2) ∧ Below w.heap.size w wz) rfl rfl ⟨wi,(by first | (go_simp; done) | (go_simp; rfl) | (simp [execOp,hrun]; done)),hm,hat.below HB1.out (Nat.le_refl _)⟩ (fun w2 hF => ?_)); (clear hrun hm hat); (have uN:=Lib.hid hF.1); (have HB2:=Lib.hid hF.2); (clear hF)) | ((with_reducible refine gate_ (.insert 146 (.tmp 1) (.const (.int .i64 3)) (.func 109)) rfl ?_); (obtain ⟨wi,hrun,hm,hat⟩:=JL uN.out 3 (.func (.func 109) #[] #[]) (by rfl)); (refine AU (fun wz => wz.heap[w.heap.size]? = some (.map Uu 3) ∧ Below w.heap.size w wz) rfl rfl ⟨wi,(by first | (go_simp; done) | (go_simp; rfl) | (simp [execOp,hrun]; done)),hm,hat.below HB2.out (Nat.le_refl _)⟩ (fun w3 hF => ?_)); (clear hrun hm hat); (have HM3:=Lib.hid hF.1); (have HB3:=Lib.hid hF.2); (clear hF)) | ((with_reducible refine gate_ (.insert 146 (.tmp 1) (.const (.int .i64 4)) (.func 110)) rfl ?_); (obtain ⟨wi,hrun,hm,hat⟩:=JL HM3.out 4 (.func (.func 110) #[] #[]) (by rfl)); (refine AU (fun wz => wz.heap[w.heap.size]? = some (.map Uw 4) ∧ Below w.heap.size w wz) rfl rfl ⟨wi,(by first | (go_simp; done) | (go_simp; rfl) | (simp [execOp,hrun]; done)),hm,hat.below HB3.out (Nat.le_refl _)⟩ (fun w4 hF => ?_)); (clear hrun hm hat); (have HM4:=Lib.hid hF.1); (have HB4:=Lib.hid hF.2); (clear hF)) | ((with_reducible refine gate_ (.insert 146 (.tmp 1) (.const (.int .i64 5)) (.func 111)) rfl ?_); (obtain ⟨wi,hrun,hm,hat⟩:=JL HM4.out 5 (.func (.func 111) #[] #[]) (by rfl)); (refine AU (fun wz => wz.heap[w.heap.size]? = some (.map Ux 5) ∧ Below w.heap.size w wz) rfl rfl ⟨wi,(by first | (go_simp; done) | (go_simp; rfl) | (simp [execOp,hrun]; done)),hm,hat.below HB4.out (Nat.le_refl _)⟩ (fun w5 hF => ?_)); (clear hrun hm hat); (have HM5:=Lib.hid hF.1); (have FN:=Lib.hid hF.2); (clear hF)) | ((with_reducible refine gate_ (.insert 146 (.tmp 1) (.const (.int .i64 6)) (.func 112)) rfl ?_); (obtain ⟨wi,hrun,hm,hat⟩:=JL HM5.out 6 (.func (.func 112) #[] #[]) (by rfl)); (refine AU (fun wz => wz.heap[w.heap.size]? = some (.map Uy 6) ∧ Below w.heap.size w wz) rfl rfl ⟨wi,(by first | (go_simp; done) | (go_simp; rfl) | (simp [execOp,hrun]; done)),hm,hat.below FN.out (Nat.le_refl _)⟩ (fun w6 hF => ?_)); (clear hrun hm hat); (have HM6:=Lib.hid hF.1); (have IE:=Lib.hid hF.2); (clear hF)) | ((with_reducible refine gate_ (.insert 146 (.tmp 1) (.const (.int .i64 7)) (.func 113)) rfl ?_); (obtain ⟨wi,hrun,hm,hat⟩:=JL HM6.out 7 (.func (.func 113) #[] #[]) (by rfl)); (refine AU (fun wz => wz.heap[w.heap.size]? = some (.map Uz 7) ∧ Below w.heap.size w wz) rfl rfl ⟨wi,(by first | (go_simp; done) | (go_simp; rfl) | (simp [execOp,hrun]; done)),hm,hat.below IE.out (Nat.le_refl _)⟩ (fun w7 hF => ?_)); (clear hrun hm hat); (have HM7:=Lib.hid hF.1); (have zC:=Lib.hid hF.2); (clear hF)) | ((with_reducible refine gate_ (.insert 146 (.tmp 1) (.const (.int .i64 8)) (.func 114)) rfl ?_); (obtain ⟨wi,hrun,hm,hat⟩:=JL HM7.out 8 (.func (.func 114) #[] #[]) (by rfl)); (refine AU (fun wz => wz.heap[w.heap.size]? = some (.map ED 8) ∧ Below w.heap.size w wz) rfl rfl ⟨wi,(by first | (go_simp; done) | (go_simp; rfl) | (simp [execOp,hrun]; done)),hm,hat.below zC.out (Nat.le_refl _)⟩ (fun w8 hF => ?_)); (clear hrun hm hat); (have HM8:=Lib.hid hF.1); (have Il:=Lib.hid hF.2); (clear hF)))
 all_goals (go_ret; exact ⟨rfl,HM8.out,Il.out⟩)
theorem U0 {w:World} {r:Nat} (hb:w.heap[r]? = some (.map ED 8)):(Instr.lookup 146 (.map (some r)) (.int .i64 1) true).run Try.prog w = .ok (.tuple #[.func (.func 107) #[] #[],.bool true]) w:=G6 hb 1 0 (.func (.func 107) #[] #[]) (by rfl)
theorem U1 {w:World} {r:Nat} (hb:w.heap[r]? = some (.map ED 8)):(Instr.lookup 146 (.map (some r)) (.int .i64 2) true).run Try.prog w = .ok (.tuple #[.func (.func 108) #[] #[],.bool true]) w:=G6 hb 2 1 (.func (.func 108) #[] #[]) (by rfl)
theorem U3 {w:World} {r:Nat} (hb:w.heap[r]? = some (.map ED 8)):(Instr.lookup 146 (.map (some r)) (.int .i64 3) true).run Try.prog w = .ok (.tuple #[.func (.func 109) #[] #[],.bool true]) w:=G6 hb 3 2 (.func (.func 109) #[] #[]) (by rfl)
theorem U4 {w:World} {r:Nat} (hb:w.heap[r]? = some (.map ED 8)):(Instr.lookup 146 (.map (some r)) (.int .i64 4) true).run Try.prog w = .ok (.tuple #[.func (.func 110) #[] #[],.bool true]) w:=G6 hb 4 3 (.func (.func 110) #[] #[]) (by rfl)
theorem U5 {w:World} {r:Nat} (hb:w.heap[r]? = some (.map ED 8)):(Instr.lookup 146 (.map (some r)) (.int .i64 5) true).run Try.prog w = .ok (.tuple #[.func (.func 111) #[] #[],.bool true]) w:=G6 hb 5 4 (.func (.func 111) #[] #[]) (by rfl)
theorem ZU {w:World} {r:Nat} (hb:w.heap[r]? = some (.map ED 8)):(Instr.lookup 146 (.map (some r)) (.int .i64 6) true).run Try.prog w = .ok (.tuple #[.func (.func 112) #[] #[],.bool true]) w:=G6 hb 6 5 (.func (.func 112) #[] #[]) (by rfl)
theorem ZV {w:World} {r:Nat} (hb:w.heap[r]? = some (.map ED 8)):(Instr.lookup 146 (.map (some r)) (.int .i64 7) true).run Try.prog w = .ok (.tuple #[.func (.func 113) #[] #[],.bool true]) w:=G6 hb 7 6 (.func (.func 113) #[] #[]) (by rfl)
theorem ZW {w:World} {r:Nat} (hb:w.heap[r]? = some (.map ED 8)):(Instr.lookup 146 (.map (some r)) (.int .i64 8) true).run Try.prog w = .ok (.tuple #[.func (.func 114) #[] #[],.bool true]) w:=G6 hb 8 7 (.func (.func 114) #[] #[]) (by rfl)
end Go.Proofs.Ytnkkgofpifhoeaa.Pr
end
