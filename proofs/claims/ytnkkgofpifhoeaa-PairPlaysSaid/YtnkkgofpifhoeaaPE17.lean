/- What the laws of a pair are proved with: links and pairs in memory, what their methods do, what a pair keeps to (part 17). -/
import Derived.Test.YtnkkgofpifhoeaaPE16
set_option linter.unusedSimpArgs false
set_option linter.unusedVariables false
set_option maxRecDepth 100000
set_option maxHeartbeats 16000000
section
namespace Go.Proofs.Ytnkkgofpifhoeaa.Pr
open Go.RowKit Go.Proofs.Ytnkkgofpifhoeaa.Base Go.Proofs.Ytnkkgofpifhoeaa.Steps Go.Proofs.Ytnkkgofpifhoeaa.Lk Go.Proofs.Ytnkkgofpifhoeaa.Fg Go.Proofs.YtnkkgofpifhoeaaW.PrintWords Go.Proofs.YtnkkgofpifhoeaaW.PrintLast
theorem Z3 {p:Prop} (h:p:=by
 subst ZR
 clear hv7
 have HD:=Lib.hid hD
 refine ⟨_,rfl,?_⟩
 have hS7:w7.heap[gp]? = some (.cells (BK ({ X with way:=X.way.eraseIdx i }:Pr) ge Ho wv1) 143 (0,0)) ∧ w7.heap[w3.heap.size]? = some (.cells #[.int .i64 0,.int .u32 bt,.int .i64 p.kind,.int .u32 p.mine,.int .u32 p.AB,.int .u32 p.yours,.int .u32 p.seq,.int .u32 p.AV,.int .u32 p.stamp,.int .u32 p.echo,.complex .f64 p.zr p.zi,.slice Ab p.body.length cb] 150 (0,0)):=⟨Ap hHeld.1 (EW.turns JJ).2.1 (EU.out.Hl _),Ap hHeld.2 (EW.turns JJ).2.1 (fun hx => by have:=EU.out.lt _ _ hx; omega)⟩
 clear JJ hD hQ6 hHeld
 refine hK.out _ _ hS7 (fun hHeld => ?_)
 clear hK K hS7
 refine nm 28 ?_
 refine pu 9 19 gZ ?_
 refine pu 10 29 gu ?_
 refine pu 11 30 gy ?_
 refine on 12 (some 7) Ql fun K hK => ?_
 refine EZ (by rfl) (N:=7) rfl (cs:=#[.bool false,.bool false,.bool false,.slice none 0 0]) (t:=56) (by first | (go_simp; done) | (go_simp; rfl)) ?_
 intro g7 Md w8 hbx hb8
 have Kz:w8.heap[gp]? = some (.cells (BK ({ X with way:=X.way.eraseIdx i }:Pr) ge Ho wv1) 143 (0,0)) ∧ w8.heap[w3.heap.size]? = some (.cells #[.int .i64 0,.int .u32 bt,.int .i64 p.kind,.int .u32 p.mine,.int .u32 p.AB,.int .u32 p.yours,.int .u32 p.seq,.int .u32 p.AV,.int .u32 p.stamp,.int .u32 p.echo,.complex .f64 p.zr p.zi,.slice Ab p.body.length cb] 150 (0,0)):=⟨(hb8.block gp (AQ hHeld.1)).trans hHeld.1,(hb8.block _ (AQ hHeld.2)).trans hHeld.2⟩
 have HD8:=Lib.hid (HD.out w8 g7 Md hbx hb8)
 clear hbx hb8 HD hHeld Md
 refine hK.out _ _ Kz (fun hHeld => ?_)
 clear hK K Kz
 refine nm 7 ?_
 have h9:=hcont (g7,A7,c7) _ HD8.out
 simp only [Dk,Act.put,sA,sZ,sS] at h9
 exact h9):p:=h
theorem Z8 {p:Prop} (h:p:=by
 subst ZR
 clear hv7
 have HD:=Lib.hid hD
 refine ⟨_,rfl,?_⟩
 have hS7:w7.heap[gp]? = some (.cells (BK ({ X with way:=X.way.eraseIdx i }:Pr) ge Ho wv1) 143 (0,0)) ∧ w7.heap[w3.heap.size]? = some (.cells #[.int .i64 0,.int .u32 bt,.int .i64 p.kind,.int .u32 p.mine,.int .u32 p.AB,.int .u32 p.yours,.int .u32 p.seq,.int .u32 p.AV,.int .u32 p.stamp,.int .u32 p.echo,.complex .f64 p.zr p.zi,.slice Ab p.body.length cb] 150 (0,0)):=⟨Ap hHeld.1 (EW.turns JJ).2.1 (EU.out.Hl _),Ap hHeld.2 (EW.turns JJ).2.1 (fun hx => by have:=EU.out.lt _ _ hx; omega)⟩
 clear JJ hD hQ6 hHeld
 refine hK.out _ _ hS7 (fun hHeld => ?_)
 clear hK K hS7
 refine nm 28 ?_
 refine pu 9 19 M0C ?_
 refine pu 10 29 M0D ?_
 refine pu 11 30 Ql ?_
 have h9:=hcont (g7,A7,c7) _ HD.out
 simp only [Dk,Act.put,sA,sZ,sS] at h9
 exact h9):p:=h
theorem Z13 {p:Prop} (h:p:=by
 intro s9 w9 hF
 obtain ⟨g7,A7,c7⟩:=s9
 obtain ⟨Jg,QW,wv2,okb,hD⟩:=hF
 have HD:=Lib.hid hD
 clear hD
 refine Ig (a':=?_) ?_ ?_
 rotate_left
 ·show Dk _ _ = _
  simp only [Dk,Act.put,sA,sZ,sS]
  rfl
 have hc0:w9.cell? ⟨g7,0,none⟩ = some (.bool false):=(AA HD.out.t7 0).trans rfl
 have hf0:=AL HD.out.t7 0
 have hc1:w9.cell? ⟨g7,1,none⟩ = some (.bool false):=(AA HD.out.t7 1).trans rfl
 have hf1:=AL HD.out.t7 1
 have hc2:w9.cell? ⟨g7,2,none⟩ = some (.bool false):=(AA HD.out.t7 2).trans rfl
 have hf2:=AL HD.out.t7 2
 have hc3:w9.cell? ⟨g7,3,none⟩ = some (.slice none 0 0):=(AA HD.out.t7 3).trans rfl
 have hf3:=AL HD.out.t7 3
 refine la 13 none XW fun K hK => ?_
 refine CG (fun wz => wz.heap[g7]? = some (.cells #[.bool hdb,.bool false,.bool false,.slice A7 0 c7] 56 (0,0)) ∧ Steps.At g7 w9 wz) (by rfl) rfl ⟨_,by go_simp; rfl,?_,?_⟩ (fun w10 hF => ?_)
 ·skip
  have hb1:=Af HD.out.t7 0 (.bool hdb) (cs':=#[.bool hdb,.bool false,.bool false,.slice none 0 0]) rfl
  have hb2:=Af hb1 1 (.bool false) (cs':=#[.bool hdb,.bool false,.bool false,.slice none 0 0]) rfl
  have hb3:=Af hb2 2 (.bool false) (cs':=#[.bool hdb,.bool false,.bool false,.slice none 0 0]) rfl
  have hb4:=Af hb3 3 (.slice A7 0 c7) (cs':=#[.bool hdb,.bool false,.bool false,.slice A7 0 c7]) rfl
  exact hb4
 ·repeat (first | (with_reducible exact Steps.At.refl _ _) | refine Steps.At.set ?_ _ _)
 have DJ:=Lib.hid (HD.out.write H.out.hB hF.1 hF.2)
 clear hF HD hc0 hf0 hc1 hf1 hc2 hf2 hc3 hf3
 refine hK.out _ _ ?_
 clear hK K
 refine pu 14 8 XX ?_
 refine BG (by kernel_rfl) ?_
 have ht1:w10.cell? ⟨g7,1,none⟩ = some (.bool false):=(AA DJ.out.t7 1).trans rfl
 have ht2:w10.cell? ⟨g7,2,none⟩ = some (.bool false):=(AA DJ.out.t7 2).trans rfl
 have ht3:w10.cell? ⟨g7,3,none⟩ = some (.slice A7 0 c7):=(AA DJ.out.t7 3).trans rfl
 go_wp2_with fail
 all_goals (go_ret; exact ⟨rfl,Jg,QW,wv2,DJ.out.at_,DJ.out.grew,DJ.out.kept,DJ.out.below⟩)):p:=h
theorem Z24 {p:Prop} (h:p:=by
 clear Ic
 obtain ⟨v7,rfl,⟨A7,c7,hv7⟩,hD⟩:=DV.ahead (s:=0) (by decide) hQ6 OL.out (MJ.out.below (BB.out.trans (Il.out.mono BB.out.size))) (HB1.out.trans ((BB.out.trans (Il.out.mono BB.out.size)).mono EU.out.hB)) (fun k hk => (OL.out.2 _ k hk).elim (fun x => .inl (.inr (.inl x))) .inr) QX.out.1 QX.out.2.1 QX.out.2.2 JJ
 have ZR:v7 = .slice A7 0 c7:=by rw [hv7]; rfl
 exact Z8):p:=h
theorem Z26 {p:Prop} (h:p:=by
 clear Ic
 obtain ⟨v7,rfl,⟨A7,c7,hv7⟩,hD⟩:=DV.behind (cs:=#[.bool false,.bool false,.bool false,.slice none 0 0]) (s:=0) (by decide) hQ6 OL.out (MJ.out.below BB.out) (HB1.out.trans (BB.out.mono EU.out.hB)) (fun k hk => (OL.out.2 _ k hk).elim (fun x => .inl (.inr (.inl x))) .inr) JJ
 have ZR:v7 = .slice A7 0 c7:=by rw [hv7]; rfl
 exact Z3):p:=h
theorem SL {w:World} {B gp:Nat} {ge:Nat → Nat} {own:Nat → Nat → Prop} {X:Pr} {lv:Nat → Value} {wv:Value} (h:Dj w B gp ge own X lv wv) (i:Nat) (hi:i < X.way.length) (Fh:X.way.length ≤ 1024) (bt:Int) (p:Bz) (hf:X.way.getD i DI = ⟨0,bt,p⟩) (hbt:0 < bt ∧ bt < 4294967296) (hp:p.Good) (hok:(X.sd 0).end_.Ok) (hll:(X.sd 0).log.length ≤ 1000000) (kind side:Int) (vb:Value) (L':Lk) (hdb:Bool) (hT:Bf (X.sd 0).end_ bt p = (L',⟨hdb,false,false,[]⟩)) :
  Calls Try.prog 112 #[.pointer (some ⟨gp,0,none⟩),.agg #[.int .i64 kind,.int .i64 side,.int .i64 (i:Int),vb]] w fun e w' => e = .returned (.int .i64 0) ∧ Moves w B gp ge own (({ X with way:=X.way.eraseIdx i }:Pr).set 0 (Ai (X.sd 0) L')) (fun k => k = gp ∨ own 1 k ∨ own 3 k) w':=by
 have hba:Below w.heap.size w (w.alloc (.cells #[.int .i64 kind,.int .i64 side,.int .i64 (i:Int),vb] 72)):=(Below.refl _ _).alloc (Nat.le_refl _) _
 have hc2:(w.alloc (.cells #[.int .i64 kind,.int .i64 side,.int .i64 (i:Int),vb] 72)).cell? ⟨w.heap.size,2,none⟩ = some (.int .i64 (i:Int)):=(AA (heap_alloc_new w _) 2).trans rfl
 have J9:=Lib.hid (h.sub hba)
 have Ir:=Lib.hid hba
 have H:=Lib.hid h
 have HI:=Lib.hid hi
 have HL:=Lib.hid Fh
 have Um:=Lib.hid hf
 have Gf:=Lib.hid hbt
 have KE:=Lib.hid hp
 have OK:=Lib.hid hok
 have Gv:=Lib.hid hll
 have HT:=Lib.hid hT
 clear h hba hi Fh hf hbt hp hok hll hT
 go_enter Try.func112,Try.ntmps112
 go_wp2_with (first | (go_at_call 128; (have hc:=KW J9.out i HI.out HL.out); rw [Um.out] at hc; (with_reducible refine hc.mono ?_); clear hc; rintro e w3 ⟨b3,rfl,FT,Qj⟩; (obtain ⟨Ab,cb,hb3⟩:=Kd.Am FT); (subst hb3); (obtain ⟨CQ,Ho,wv1,hP1,hg1,hk1,hb1⟩:=Qj); (have EU:=Lib.hid hP1); (have OL:=Lib.hid ((Grew.refl w own).trans Ir.out.size hg1)); (have MJ:=Lib.hid (show Kept w w3 (fun k => k = gp ∨ own 1 k ∨ own 3 k) from (Kept.of_below Ir.out _).BQ hk1 (fun k hk => .inl (.inl hk)))); (have HB1:=Lib.hid ((Ir.out.mono H.out.hB).trans hb1)); (have HR3:=Lib.hid (Kd.BV FT (fun k hk => hg1.1 5 k hk))); (have HZ3:=Lib.hid (heap_alloc_new w3 (.cells #[.int .i64 0,.int .u32 0,.int .i64 0,.int .u32 0,.int .u32 0,.int .u32 0,.int .u32 0,.int .u32 0,.int .u32 0,.int .u32 0,.complex .f64 0 0,.slice none 0 0] 150))); (have OM:=Lib.hid (show Below w3.heap.size w3 (w3.alloc (.cells #[.int .i64 0,.int .u32 0,.int .i64 0,.int .u32 0,.int .u32 0,.int .u32 0,.int .u32 0,.int .u32 0,.int .u32 0,.int .u32 0,.complex .f64 0 0,.slice none 0 0] 150)) from (Below.refl _ _).alloc (Nat.le_refl _) _)); (clear hP1 hg1 hk1 hb1 FT)) | ((with_reducible refine gate_ (.store 150 (.tmp 5) (.tmp 12)) rfl ?_); (refine Ad rfl rfl 150 (.tmp 5) (.tmp 12) rfl w3.heap.size #[.int .i64 0,.int .u32 bt,.int .i64 p.kind,.int .u32 p.mine,.int .u32 p.AB,.int .u32 p.yours,.int .u32 p.seq,.int .u32 p.AV,.int .u32 p.stamp,.int .u32 p.echo,.complex .f64 p.zr p.zi,.slice Ab p.body.length cb] rfl rfl 150 _ HZ3.out (by kernel_rfl) rfl (by kernel_rfl) ?_); (intro w4 hb4 Gt); (have HB4:=Lib.hid hb4); (have FP:=Lib.hid (Gt.below OM.out (Nat.le_refl _))); (have hd0:w4.cell? ⟨w3.heap.size,0,none⟩ = some (.int .i64 0):=(AA HB4.out 0).trans rfl); (clear hb4 Gt)))
 go_quiet (fail)
 rename Nat => nq1
 go_wp2_with fail
 have hbd:=AZ (Bd FP.out nq1)
 have hSS:(w4.drewN nq1).drew.heap[gp]? = some (.cells (BK ({ X with way:=X.way.eraseIdx i }:Pr) ge Ho wv1) 143 (0,0)) ∧ (w4.drewN nq1).drew.heap[w3.heap.size]? = some (.cells #[.int .i64 0,.int .u32 bt,.int .i64 p.kind,.int .u32 p.mine,.int .u32 p.AB,.int .u32 p.yours,.int .u32 p.seq,.int .u32 p.AV,.int .u32 p.stamp,.int .u32 p.echo,.complex .f64 p.zr p.zi,.slice Ab p.body.length cb] 150 (0,0)):=⟨(EU.out.sub hbd).blk,HB4.out⟩
 clear HB4 FP HZ3 OM hd0
 refine BA (n:=15) (S:=fun w' => w'.heap[gp]? = some (.cells (BK ({ X with way:=X.way.eraseIdx i }:Pr) ge Ho wv1) 143 (0,0)) ∧ w'.heap[w3.heap.size]? = some (.cells #[.int .i64 0,.int .u32 bt,.int .i64 p.kind,.int .u32 p.mine,.int .u32 p.AB,.int .u32 p.yours,.int .u32 p.seq,.int .u32 p.AV,.int .u32 p.stamp,.int .u32 p.echo,.complex .f64 p.zr p.zi,.slice Ab p.body.length cb] 150 (0,0))) (ds:=[13]) Vp (by kernel_rfl) rfl rfl (hSS) (fun hHeld => ?_)
 generalize (w4.drewN nq1).drew = w6 at hbd hHeld ⊢
 have BB:=Lib.hid hbd
 clear hbd
 refine pu 0 20 Vq ?_
 refine pu 1 21 Vr ?_
 refine pu 2 22 Vs ?_
 refine tk 3 23 Vt hHeld ?_ (hf:=by intro w' s0; have hc2:w'.cell? ⟨gp,0,none⟩ = some (.pointer (some ⟨ge 0,0,none⟩)):=(AA s0.1 0).trans rfl; clear s0; go_simp; rfl)
 refine pu 4 24 Vu ?_
 refine tk 5 25 Vw hHeld ?_ (hf:=by intro w' s0; have hc3:w'.cell? ⟨w3.heap.size,1,none⟩ = some (.int .u32 bt):=(AA s0.2 1).trans rfl; clear s0; go_simp; with_reducible rfl)
 refine pu 6 26 Vx ?_
 refine tk 7 27 Vy hHeld ?_ (hf:=by intro w' s0; have CP:=Try.underlying27; have hd2:w'.cell? ⟨w3.heap.size,2,none⟩ = some (.int .i64 p.kind):=(AA s0.2 2).trans rfl; have hd3:w'.cell? ⟨w3.heap.size,3,none⟩ = some (.int .u32 p.mine):=(AA s0.2 3).trans rfl; have hd4:w'.cell? ⟨w3.heap.size,4,none⟩ = some (.int .u32 p.AB):=(AA s0.2 4).trans rfl; have hd5:w'.cell? ⟨w3.heap.size,5,none⟩ = some (.int .u32 p.yours):=(AA s0.2 5).trans rfl; have hd6:w'.cell? ⟨w3.heap.size,6,none⟩ = some (.int .u32 p.seq):=(AA s0.2 6).trans rfl; have hd7:w'.cell? ⟨w3.heap.size,7,none⟩ = some (.int .u32 p.AV):=(AA s0.2 7).trans rfl; have hd8:w'.cell? ⟨w3.heap.size,8,none⟩ = some (.int .u32 p.stamp):=(AA s0.2 8).trans rfl; have hd9:w'.cell? ⟨w3.heap.size,9,none⟩ = some (.int .u32 p.echo):=(AA s0.2 9).trans rfl; have hd10:w'.cell? ⟨w3.heap.size,10,none⟩ = some (.complex .f64 p.zr p.zi):=(AA s0.2 10).trans rfl; have hd11:w'.cell? ⟨w3.heap.size,11,none⟩ = some (.slice Ab p.body.length cb):=(AA s0.2 11).trans rfl; clear s0; go_simp; try rfl)
 refine Lm (σ:=Nat × Option Addr × Nat) 2 Ql (fun s => [(28,.tuple #[.agg #[.bool hdb,.bool false,.bool false,.slice s.2.1 0 s.2.2],.int .i64 0]),(19,.tuple #[.agg #[.bool hdb,.bool false,.bool false,.slice s.2.1 0 s.2.2],.int .i64 0]),(29,.agg #[.bool hdb,.bool false,.bool false,.slice s.2.1 0 s.2.2]),(30,.int .i64 0),(7,.pointer (some ⟨s.1,0,none⟩))]) (fun s w' => aI w B gp ge own (({ X with way:=X.way.eraseIdx i }:Pr).set 0 (Ai (X.sd 0) L')) (fun k => k = gp ∨ own 1 k ∨ own 3 k) s.1 (.slice s.2.1 0 s.2.2) [] #[.bool false,.bool false,.bool false,.slice none 0 0] w') ?_ ?_
 rotate_left
 ·intro hcont
  refine OY (i:=8) (j:=12) (Ni:=some 28) (Nj:=some 7) Vz eP rfl rfl rfl rfl (by kernel_rfl) (by decide) (by decide) (fun K hK => ?_) (fun K hK => ?_)
  ·skip
   have hQ6:=(EU.out.sub BB.out)
   refine BH Try.func34 (by kernel_rfl) rfl #[.pointer (some ⟨ge 0,0,none⟩),.int .u32 bt,.agg #[.int .i64 p.kind,.int .u32 p.mine,.int .u32 p.AB,.int .u32 p.yours,.int .u32 p.seq,.int .u32 p.AV,.int .u32 p.stamp,.int .u32 p.echo,.complex .f64 p.zr p.zi,.slice Ab p.body.length cb]] (by rfl) rfl rfl (by (try simp only [List.map_toArray,List.map_cons,List.map_nil]); first | done | rfl) ?_
   have Bh:Calls Try.prog 34 #[.pointer (some ⟨ge 0,0,none⟩),.int .u32 bt,.agg #[.int .i64 p.kind,.int .u32 p.mine,.int .u32 p.AB,.int .u32 p.yours,.int .u32 p.seq,.int .u32 p.AV,.int .u32 p.stamp,.int .u32 p.echo,.complex .f64 p.zr p.zi,.slice Ab p.body.length cb]] w6 _:=DL (hQ6.e 0 (by decide)) hQ6.hB OK.out bt p Gf.out KE.out (cs:=cells p (.slice Ab p.body.length cb)) (CY:=CQ 5) (DY.2 ⟨_,rfl,Kd.BJ HR3.out (Kept.of_below BB.out (fun _ => False)) (fun _ _ hf => hf)⟩) (fun k hx hy => by have:=hQ6.EF 5 (1 + 0) k hx hy; omega)
   refine Bh.mono ?_
   clear Bh
   intro e w7 Ic
   have JJ:En w6 B (CQ (1 + 0)) (ge 0) (L',⟨hdb,false,false,[]⟩) e w7:=by
    have hh:=HT.out
    rw [← hh]
    exact Ic
   exact Z26
  ·skip
   refine EZ (by rfl) (N:=7) rfl (cs:=#[.bool false,.bool false,.bool false,.slice none 0 0]) (t:=56) (by first | (go_simp; done) | (go_simp; rfl)) ?_
   intro g7 Md w8 hbx hb8
   have Kz:w8.heap[gp]? = some (.cells (BK ({ X with way:=X.way.eraseIdx i }:Pr) ge Ho wv1) 143 (0,0)) ∧ w8.heap[w3.heap.size]? = some (.cells #[.int .i64 0,.int .u32 bt,.int .i64 p.kind,.int .u32 p.mine,.int .u32 p.AB,.int .u32 p.yours,.int .u32 p.seq,.int .u32 p.AV,.int .u32 p.stamp,.int .u32 p.echo,.complex .f64 p.zr p.zi,.slice Ab p.body.length cb] 150 (0,0)):=⟨(hb8.block gp (AQ hHeld.1)).trans hHeld.1,(hb8.block _ (AQ hHeld.2)).trans hHeld.2⟩
   have Un:=Lib.hid ((EU.out.sub BB.out).sub hb8)
   have GY:=AQ (EU.out.sub BB.out).blk
   have Uo:=BB.out.size
   have hz3:=MJ.out.1
   have QX:=Lib.hid (show w8.heap[g7]? = some (.cells #[.bool false,.bool false,.bool false,.slice none 0 0] 56 (0,0)) ∧ (g7 ≠ gp ∧ ∀ i,¬ CQ i g7) ∧ w.heap.size ≤ g7 from ⟨hbx,⟨by omega,fun i hi => by have:=(EU.out.sub BB.out).lt i g7 hi; omega⟩,by omega⟩)
   have Il:=Lib.hid hb8
   clear hbx GY Uo hz3 hHeld Md
   clear hb8
   refine hK.out _ _ Kz (fun hHeld => ?_)
   clear hK K Kz
   refine nm 7 ?_
   refine on 8 (some 28) eU fun K hK => ?_
   have hQ6:=Un.out
   refine BH Try.func34 (by kernel_rfl) rfl #[.pointer (some ⟨ge 0,0,none⟩),.int .u32 bt,.agg #[.int .i64 p.kind,.int .u32 p.mine,.int .u32 p.AB,.int .u32 p.yours,.int .u32 p.seq,.int .u32 p.AV,.int .u32 p.stamp,.int .u32 p.echo,.complex .f64 p.zr p.zi,.slice Ab p.body.length cb]] (by rfl) rfl rfl (by (try simp only [List.map_toArray,List.map_cons,List.map_nil]); first | done | rfl) ?_
   have Bh:Calls Try.prog 34 #[.pointer (some ⟨ge 0,0,none⟩),.int .u32 bt,.agg #[.int .i64 p.kind,.int .u32 p.mine,.int .u32 p.AB,.int .u32 p.yours,.int .u32 p.seq,.int .u32 p.AV,.int .u32 p.stamp,.int .u32 p.echo,.complex .f64 p.zr p.zi,.slice Ab p.body.length cb]] w8 _:=DL (hQ6.e 0 (by decide)) hQ6.hB OK.out bt p Gf.out KE.out (cs:=cells p (.slice Ab p.body.length cb)) (CY:=CQ 5) (DY.2 ⟨_,rfl,Kd.BJ HR3.out (Kept.of_below (BB.out.trans (Il.out.mono BB.out.size)) (fun _ => False)) (fun _ _ hf => hf)⟩) (fun k hx hy => by have:=hQ6.EF 5 (1 + 0) k hx hy; omega)
   refine Bh.mono ?_
   clear Bh
   intro e w7 Ic
   have JJ:En w8 B (CQ (1 + 0)) (ge 0) (L',⟨hdb,false,false,[]⟩) e w7:=by
    have hh:=HT.out
    rw [← hh]
    exact Ic
   exact Z24
 exact Z13
theorem Z4 {p:Prop} (h:p:=by
 subst ZR
 clear hv7
 have HD:=Lib.hid hD
 refine ⟨_,rfl,?_⟩
 have hS7:w7.heap[gp]? = some (.cells (BK ({ X with way:=X.way.eraseIdx i }:Pr) ge Ho wv1) 143 (0,0)) ∧ w7.heap[w3.heap.size]? = some (.cells #[.int .i64 1,.int .u32 bt,.int .i64 p.kind,.int .u32 p.mine,.int .u32 p.AB,.int .u32 p.yours,.int .u32 p.seq,.int .u32 p.AV,.int .u32 p.stamp,.int .u32 p.echo,.complex .f64 p.zr p.zi,.slice Ab p.body.length cb] 150 (0,0)):=⟨Ap hHeld.1 (EW.turns JJ).2.1 (EU.out.Hl _),Ap hHeld.2 (EW.turns JJ).2.1 (fun hx => by have:=EU.out.lt _ _ hx; omega)⟩
 clear JJ hD hQ6 hHeld
 refine hK.out _ _ hS7 (fun hHeld => ?_)
 clear hK K hS7
 refine nm 28 ?_
 refine pu 9 19 gZ ?_
 refine pu 10 29 gu ?_
 refine pu 11 30 gy ?_
 refine on 12 (some 7) Ql fun K hK => ?_
 refine EZ (by rfl) (N:=7) rfl (cs:=#[.bool false,.bool false,.bool false,.slice none 0 0]) (t:=56) (by first | (go_simp; done) | (go_simp; rfl)) ?_
 intro g7 Md w8 hbx hb8
 have Kz:w8.heap[gp]? = some (.cells (BK ({ X with way:=X.way.eraseIdx i }:Pr) ge Ho wv1) 143 (0,0)) ∧ w8.heap[w3.heap.size]? = some (.cells #[.int .i64 1,.int .u32 bt,.int .i64 p.kind,.int .u32 p.mine,.int .u32 p.AB,.int .u32 p.yours,.int .u32 p.seq,.int .u32 p.AV,.int .u32 p.stamp,.int .u32 p.echo,.complex .f64 p.zr p.zi,.slice Ab p.body.length cb] 150 (0,0)):=⟨(hb8.block gp (AQ hHeld.1)).trans hHeld.1,(hb8.block _ (AQ hHeld.2)).trans hHeld.2⟩
 have HD8:=Lib.hid (HD.out w8 g7 Md hbx hb8)
 clear hbx hb8 HD hHeld Md
 refine hK.out _ _ Kz (fun hHeld => ?_)
 clear hK K Kz
 refine nm 7 ?_
 have h9:=hcont (g7,A7,c7) _ HD8.out
 simp only [Dk,Act.put,sA,sZ,sS] at h9
 exact h9):p:=h
theorem Z9 {p:Prop} (h:p:=by
 subst ZR
 clear hv7
 have HD:=Lib.hid hD
 refine ⟨_,rfl,?_⟩
 have hS7:w7.heap[gp]? = some (.cells (BK ({ X with way:=X.way.eraseIdx i }:Pr) ge Ho wv1) 143 (0,0)) ∧ w7.heap[w3.heap.size]? = some (.cells #[.int .i64 1,.int .u32 bt,.int .i64 p.kind,.int .u32 p.mine,.int .u32 p.AB,.int .u32 p.yours,.int .u32 p.seq,.int .u32 p.AV,.int .u32 p.stamp,.int .u32 p.echo,.complex .f64 p.zr p.zi,.slice Ab p.body.length cb] 150 (0,0)):=⟨Ap hHeld.1 (EW.turns JJ).2.1 (EU.out.Hl _),Ap hHeld.2 (EW.turns JJ).2.1 (fun hx => by have:=EU.out.lt _ _ hx; omega)⟩
 clear JJ hD hQ6 hHeld
 refine hK.out _ _ hS7 (fun hHeld => ?_)
 clear hK K hS7
 refine nm 28 ?_
 refine pu 9 19 M0C ?_
 refine pu 10 29 M0D ?_
 refine pu 11 30 Ql ?_
 have h9:=hcont (g7,A7,c7) _ HD.out
 simp only [Dk,Act.put,sA,sZ,sS] at h9
 exact h9):p:=h
theorem Z25 {p:Prop} (h:p:=by
 clear Ic
 obtain ⟨v7,rfl,⟨A7,c7,hv7⟩,hD⟩:=DV.ahead (s:=1) (by decide) hQ6 OL.out (MJ.out.below (BB.out.trans (Il.out.mono BB.out.size))) (HB1.out.trans ((BB.out.trans (Il.out.mono BB.out.size)).mono EU.out.hB)) (fun k hk => (OL.out.2 _ k hk).elim (fun x => .inl (.inr (.inl x))) .inr) QX.out.1 QX.out.2.1 QX.out.2.2 JJ
 have ZR:v7 = .slice A7 0 c7:=by rw [hv7]; rfl
 exact Z9):p:=h
theorem Z27 {p:Prop} (h:p:=by
 clear Ic
 obtain ⟨v7,rfl,⟨A7,c7,hv7⟩,hD⟩:=DV.behind (cs:=#[.bool false,.bool false,.bool false,.slice none 0 0]) (s:=1) (by decide) hQ6 OL.out (MJ.out.below BB.out) (HB1.out.trans (BB.out.mono EU.out.hB)) (fun k hk => (OL.out.2 _ k hk).elim (fun x => .inl (.inr (.inl x))) .inr) JJ
 have ZR:v7 = .slice A7 0 c7:=by rw [hv7]; rfl
 exact Z4):p:=h
theorem SN {w:World} {B gp:Nat} {ge:Nat → Nat} {own:Nat → Nat → Prop} {X:Pr} {lv:Nat → Value} {wv:Value} (h:Dj w B gp ge own X lv wv) (i:Nat) (hi:i < X.way.length) (Fh:X.way.length ≤ 1024) (bt:Int) (p:Bz) (hf:X.way.getD i DI = ⟨1,bt,p⟩) (hbt:0 < bt ∧ bt < 4294967296) (hp:p.Good) (hok:(X.sd 1).end_.Ok) (hll:(X.sd 1).log.length ≤ 1000000) (kind side:Int) (vb:Value) (L':Lk) (hdb:Bool) (hT:Bf (X.sd 1).end_ bt p = (L',⟨hdb,false,false,[]⟩)) :
  Calls Try.prog 112 #[.pointer (some ⟨gp,0,none⟩),.agg #[.int .i64 kind,.int .i64 side,.int .i64 (i:Int),vb]] w fun e w' => e = .returned (.int .i64 0) ∧ Moves w B gp ge own (({ X with way:=X.way.eraseIdx i }:Pr).set 1 (Ai (X.sd 1) L')) (fun k => k = gp ∨ own 2 k ∨ own 4 k) w':=by
 have hba:Below w.heap.size w (w.alloc (.cells #[.int .i64 kind,.int .i64 side,.int .i64 (i:Int),vb] 72)):=(Below.refl _ _).alloc (Nat.le_refl _) _
 have hc2:(w.alloc (.cells #[.int .i64 kind,.int .i64 side,.int .i64 (i:Int),vb] 72)).cell? ⟨w.heap.size,2,none⟩ = some (.int .i64 (i:Int)):=(AA (heap_alloc_new w _) 2).trans rfl
 have J9:=Lib.hid (h.sub hba)
 have Ir:=Lib.hid hba
 have H:=Lib.hid h
 have HI:=Lib.hid hi
 have HL:=Lib.hid Fh
 have Um:=Lib.hid hf
 have Gf:=Lib.hid hbt
 have KE:=Lib.hid hp
 have OK:=Lib.hid hok
 have Gv:=Lib.hid hll
 have HT:=Lib.hid hT
 clear h hba hi Fh hf hbt hp hok hll hT
 go_enter Try.func112,Try.ntmps112
 go_wp2_with (first | (go_at_call 128; (have hc:=KW J9.out i HI.out HL.out); rw [Um.out] at hc; (with_reducible refine hc.mono ?_); clear hc; rintro e w3 ⟨b3,rfl,FT,Qj⟩; (obtain ⟨Ab,cb,hb3⟩:=Kd.Am FT); (subst hb3); (obtain ⟨CQ,Ho,wv1,hP1,hg1,hk1,hb1⟩:=Qj); (have EU:=Lib.hid hP1); (have OL:=Lib.hid ((Grew.refl w own).trans Ir.out.size hg1)); (have MJ:=Lib.hid (show Kept w w3 (fun k => k = gp ∨ own 2 k ∨ own 4 k) from (Kept.of_below Ir.out _).BQ hk1 (fun k hk => .inl (.inl hk)))); (have HB1:=Lib.hid ((Ir.out.mono H.out.hB).trans hb1)); (have HR3:=Lib.hid (Kd.BV FT (fun k hk => hg1.1 5 k hk))); (have HZ3:=Lib.hid (heap_alloc_new w3 (.cells #[.int .i64 0,.int .u32 0,.int .i64 0,.int .u32 0,.int .u32 0,.int .u32 0,.int .u32 0,.int .u32 0,.int .u32 0,.int .u32 0,.complex .f64 0 0,.slice none 0 0] 150))); (have OM:=Lib.hid (show Below w3.heap.size w3 (w3.alloc (.cells #[.int .i64 0,.int .u32 0,.int .i64 0,.int .u32 0,.int .u32 0,.int .u32 0,.int .u32 0,.int .u32 0,.int .u32 0,.int .u32 0,.complex .f64 0 0,.slice none 0 0] 150)) from (Below.refl _ _).alloc (Nat.le_refl _) _)); (clear hP1 hg1 hk1 hb1 FT)) | ((with_reducible refine gate_ (.store 150 (.tmp 5) (.tmp 12)) rfl ?_); (refine Ad rfl rfl 150 (.tmp 5) (.tmp 12) rfl w3.heap.size #[.int .i64 1,.int .u32 bt,.int .i64 p.kind,.int .u32 p.mine,.int .u32 p.AB,.int .u32 p.yours,.int .u32 p.seq,.int .u32 p.AV,.int .u32 p.stamp,.int .u32 p.echo,.complex .f64 p.zr p.zi,.slice Ab p.body.length cb] rfl rfl 150 _ HZ3.out (by kernel_rfl) rfl (by kernel_rfl) ?_); (intro w4 hb4 Gt); (have HB4:=Lib.hid hb4); (have FP:=Lib.hid (Gt.below OM.out (Nat.le_refl _))); (have hd0:w4.cell? ⟨w3.heap.size,0,none⟩ = some (.int .i64 1):=(AA HB4.out 0).trans rfl); (clear hb4 Gt)))
 go_quiet (fail)
 rename Nat => nq1
 go_wp2_with fail
 have hbd:=AZ (Bd FP.out nq1)
 have hSS:(w4.drewN nq1).drew.heap[gp]? = some (.cells (BK ({ X with way:=X.way.eraseIdx i }:Pr) ge Ho wv1) 143 (0,0)) ∧ (w4.drewN nq1).drew.heap[w3.heap.size]? = some (.cells #[.int .i64 1,.int .u32 bt,.int .i64 p.kind,.int .u32 p.mine,.int .u32 p.AB,.int .u32 p.yours,.int .u32 p.seq,.int .u32 p.AV,.int .u32 p.stamp,.int .u32 p.echo,.complex .f64 p.zr p.zi,.slice Ab p.body.length cb] 150 (0,0)):=⟨(EU.out.sub hbd).blk,HB4.out⟩
 clear HB4 FP HZ3 OM hd0
 refine BA (n:=15) (S:=fun w' => w'.heap[gp]? = some (.cells (BK ({ X with way:=X.way.eraseIdx i }:Pr) ge Ho wv1) 143 (0,0)) ∧ w'.heap[w3.heap.size]? = some (.cells #[.int .i64 1,.int .u32 bt,.int .i64 p.kind,.int .u32 p.mine,.int .u32 p.AB,.int .u32 p.yours,.int .u32 p.seq,.int .u32 p.AV,.int .u32 p.stamp,.int .u32 p.echo,.complex .f64 p.zr p.zi,.slice Ab p.body.length cb] 150 (0,0))) (ds:=[13]) Vp (by kernel_rfl) rfl rfl (hSS) (fun hHeld => ?_)
 generalize (w4.drewN nq1).drew = w6 at hbd hHeld ⊢
 have BB:=Lib.hid hbd
 clear hbd
 refine pu 0 20 Vq ?_
 refine pu 1 21 Vr ?_
 refine pu 2 22 Vs ?_
 refine tk 3 23 Vt hHeld ?_ (hf:=by intro w' s0; have hc2:w'.cell? ⟨gp,9,none⟩ = some (.pointer (some ⟨ge 1,0,none⟩)):=(AA s0.1 9).trans rfl; clear s0; go_simp; rfl)
 refine pu 4 24 Vu ?_
 refine tk 5 25 Vw hHeld ?_ (hf:=by intro w' s0; have hc3:w'.cell? ⟨w3.heap.size,1,none⟩ = some (.int .u32 bt):=(AA s0.2 1).trans rfl; clear s0; go_simp; with_reducible rfl)
 refine pu 6 26 Vx ?_
 refine tk 7 27 Vy hHeld ?_ (hf:=by intro w' s0; have CP:=Try.underlying27; have hd2:w'.cell? ⟨w3.heap.size,2,none⟩ = some (.int .i64 p.kind):=(AA s0.2 2).trans rfl; have hd3:w'.cell? ⟨w3.heap.size,3,none⟩ = some (.int .u32 p.mine):=(AA s0.2 3).trans rfl; have hd4:w'.cell? ⟨w3.heap.size,4,none⟩ = some (.int .u32 p.AB):=(AA s0.2 4).trans rfl; have hd5:w'.cell? ⟨w3.heap.size,5,none⟩ = some (.int .u32 p.yours):=(AA s0.2 5).trans rfl; have hd6:w'.cell? ⟨w3.heap.size,6,none⟩ = some (.int .u32 p.seq):=(AA s0.2 6).trans rfl; have hd7:w'.cell? ⟨w3.heap.size,7,none⟩ = some (.int .u32 p.AV):=(AA s0.2 7).trans rfl; have hd8:w'.cell? ⟨w3.heap.size,8,none⟩ = some (.int .u32 p.stamp):=(AA s0.2 8).trans rfl; have hd9:w'.cell? ⟨w3.heap.size,9,none⟩ = some (.int .u32 p.echo):=(AA s0.2 9).trans rfl; have hd10:w'.cell? ⟨w3.heap.size,10,none⟩ = some (.complex .f64 p.zr p.zi):=(AA s0.2 10).trans rfl; have hd11:w'.cell? ⟨w3.heap.size,11,none⟩ = some (.slice Ab p.body.length cb):=(AA s0.2 11).trans rfl; clear s0; go_simp; try rfl)
 refine Lm (σ:=Nat × Option Addr × Nat) 2 Ql (fun s => [(28,.tuple #[.agg #[.bool hdb,.bool false,.bool false,.slice s.2.1 0 s.2.2],.int .i64 0]),(19,.tuple #[.agg #[.bool hdb,.bool false,.bool false,.slice s.2.1 0 s.2.2],.int .i64 0]),(29,.agg #[.bool hdb,.bool false,.bool false,.slice s.2.1 0 s.2.2]),(30,.int .i64 0),(7,.pointer (some ⟨s.1,0,none⟩))]) (fun s w' => aI w B gp ge own (({ X with way:=X.way.eraseIdx i }:Pr).set 1 (Ai (X.sd 1) L')) (fun k => k = gp ∨ own 2 k ∨ own 4 k) s.1 (.slice s.2.1 0 s.2.2) [] #[.bool false,.bool false,.bool false,.slice none 0 0] w') ?_ ?_
 rotate_left
 ·intro hcont
  refine OY (i:=8) (j:=12) (Ni:=some 28) (Nj:=some 7) Vz eP rfl rfl rfl rfl (by kernel_rfl) (by decide) (by decide) (fun K hK => ?_) (fun K hK => ?_)
  ·skip
   have hQ6:=(EU.out.sub BB.out)
   refine BH Try.func34 (by kernel_rfl) rfl #[.pointer (some ⟨ge 1,0,none⟩),.int .u32 bt,.agg #[.int .i64 p.kind,.int .u32 p.mine,.int .u32 p.AB,.int .u32 p.yours,.int .u32 p.seq,.int .u32 p.AV,.int .u32 p.stamp,.int .u32 p.echo,.complex .f64 p.zr p.zi,.slice Ab p.body.length cb]] (by rfl) rfl rfl (by (try simp only [List.map_toArray,List.map_cons,List.map_nil]); first | done | rfl) ?_
   have Bh:Calls Try.prog 34 #[.pointer (some ⟨ge 1,0,none⟩),.int .u32 bt,.agg #[.int .i64 p.kind,.int .u32 p.mine,.int .u32 p.AB,.int .u32 p.yours,.int .u32 p.seq,.int .u32 p.AV,.int .u32 p.stamp,.int .u32 p.echo,.complex .f64 p.zr p.zi,.slice Ab p.body.length cb]] w6 _:=DL (hQ6.e 1 (by decide)) hQ6.hB OK.out bt p Gf.out KE.out (cs:=cells p (.slice Ab p.body.length cb)) (CY:=CQ 5) (DY.2 ⟨_,rfl,Kd.BJ HR3.out (Kept.of_below BB.out (fun _ => False)) (fun _ _ hf => hf)⟩) (fun k hx hy => by have:=hQ6.EF 5 (1 + 1) k hx hy; omega)
   refine Bh.mono ?_
   clear Bh
   intro e w7 Ic
   have JJ:En w6 B (CQ (1 + 1)) (ge 1) (L',⟨hdb,false,false,[]⟩) e w7:=by
    have hh:=HT.out
    rw [← hh]
    exact Ic
   exact Z27
  ·skip
   refine EZ (by rfl) (N:=7) rfl (cs:=#[.bool false,.bool false,.bool false,.slice none 0 0]) (t:=56) (by first | (go_simp; done) | (go_simp; rfl)) ?_
   intro g7 Md w8 hbx hb8
   have Kz:w8.heap[gp]? = some (.cells (BK ({ X with way:=X.way.eraseIdx i }:Pr) ge Ho wv1) 143 (0,0)) ∧ w8.heap[w3.heap.size]? = some (.cells #[.int .i64 1,.int .u32 bt,.int .i64 p.kind,.int .u32 p.mine,.int .u32 p.AB,.int .u32 p.yours,.int .u32 p.seq,.int .u32 p.AV,.int .u32 p.stamp,.int .u32 p.echo,.complex .f64 p.zr p.zi,.slice Ab p.body.length cb] 150 (0,0)):=⟨(hb8.block gp (AQ hHeld.1)).trans hHeld.1,(hb8.block _ (AQ hHeld.2)).trans hHeld.2⟩
   have Un:=Lib.hid ((EU.out.sub BB.out).sub hb8)
   have GY:=AQ (EU.out.sub BB.out).blk
   have Uo:=BB.out.size
   have hz3:=MJ.out.1
   have QX:=Lib.hid (show w8.heap[g7]? = some (.cells #[.bool false,.bool false,.bool false,.slice none 0 0] 56 (0,0)) ∧ (g7 ≠ gp ∧ ∀ i,¬ CQ i g7) ∧ w.heap.size ≤ g7 from ⟨hbx,⟨by omega,fun i hi => by have:=(EU.out.sub BB.out).lt i g7 hi; omega⟩,by omega⟩)
   have Il:=Lib.hid hb8
   clear hbx GY Uo hz3 hHeld Md
   clear hb8
   refine hK.out _ _ Kz (fun hHeld => ?_)
   clear hK K Kz
   refine nm 7 ?_
   refine on 8 (some 28) eU fun K hK => ?_
   have hQ6:=Un.out
   refine BH Try.func34 (by kernel_rfl) rfl #[.pointer (some ⟨ge 1,0,none⟩),.int .u32 bt,.agg #[.int .i64 p.kind,.int .u32 p.mine,.int .u32 p.AB,.int .u32 p.yours,.int .u32 p.seq,.int .u32 p.AV,.int .u32 p.stamp,.int .u32 p.echo,.complex .f64 p.zr p.zi,.slice Ab p.body.length cb]] (by rfl) rfl rfl (by (try simp only [List.map_toArray,List.map_cons,List.map_nil]); first | done | rfl) ?_
   have Bh:Calls Try.prog 34 #[.pointer (some ⟨ge 1,0,none⟩),.int .u32 bt,.agg #[.int .i64 p.kind,.int .u32 p.mine,.int .u32 p.AB,.int .u32 p.yours,.int .u32 p.seq,.int .u32 p.AV,.int .u32 p.stamp,.int .u32 p.echo,.complex .f64 p.zr p.zi,.slice Ab p.body.length cb]] w8 _:=DL (hQ6.e 1 (by decide)) hQ6.hB OK.out bt p Gf.out KE.out (cs:=cells p (.slice Ab p.body.length cb)) (CY:=CQ 5) (DY.2 ⟨_,rfl,Kd.BJ HR3.out (Kept.of_below (BB.out.trans (Il.out.mono BB.out.size)) (fun _ => False)) (fun _ _ hf => hf)⟩) (fun k hx hy => by have:=hQ6.EF 5 (1 + 1) k hx hy; omega)
   refine Bh.mono ?_
   clear Bh
   intro e w7 Ic
   have JJ:En w8 B (CQ (1 + 1)) (ge 1) (L',⟨hdb,false,false,[]⟩) e w7:=by
    have hh:=HT.out
    rw [← hh]
    exact Ic
   exact Z25
 exact Z13
theorem wY {p:Prop} (h:p:=by
 have hM:=HM.out
 rw [Pr.set_set,Pr.Ae] at hM
 exact Moves.BQ DJ.out.kept DJ.out.below DJ.out.grew hM (fun k hk => hk.elim (fun x => .inl (.inl x)) (fun x => (DJ.out.grew.2 _ k x).elim (fun y => .inl (.inr (.inr y))) .inr))):p:=h
theorem Z33 {p:Prop} (h:p:=by
 have hb1:=Af HD.out.t7 0 (.bool hdb) (cs':=#[.bool hdb,.bool false,.bool false,.slice none 0 0]) rfl
 have hb2:=Af hb1 1 (.bool false) (cs':=#[.bool hdb,.bool false,.bool false,.slice none 0 0]) rfl
 have hb3:=Af hb2 2 (.bool true) (cs':=#[.bool hdb,.bool false,.bool true,.slice none 0 0]) rfl
 have hb4:=Af hb3 3 (.slice A7 0 c7) (cs':=#[.bool hdb,.bool false,.bool true,.slice A7 0 c7]) rfl
 exact hb4):p:=h
theorem SQ {w:World} {B gp:Nat} {ge:Nat → Nat} {own:Nat → Nat → Prop} {X:Pr} {lv:Nat → Value} {wv:Value} (h:Dj w B gp ge own X lv wv) (i:Nat) (hi:i < X.way.length) (Fh:X.way.length ≤ 1024) (bt:Int) (p:Bz) (hf:X.way.getD i DI = ⟨0,bt,p⟩) (hbt:0 < bt ∧ bt < 4294967296) (hp:p.Good) (hok:(X.sd 0).end_.Ok) (hll:(X.sd 0).log.length ≤ 1000000) (kind side:Int) (vb:Value) (L':Lk) (hdb:Bool) (hT:Bf (X.sd 0).end_ bt p = (L',⟨hdb,false,true,[]⟩)) :
  Calls Try.prog 112 #[.pointer (some ⟨gp,0,none⟩),.agg #[.int .i64 kind,.int .i64 side,.int .i64 (i:Int),vb]] w fun e w' => e = .returned (.int .i64 0) ∧ Moves w B gp ge own (({ X with way:=X.way.eraseIdx i }:Pr).set 0 (DZ (Ai (X.sd 0) L') 2 [])) (fun k => k = gp ∨ own 1 k ∨ own 3 k) w':=by
 have hba:Below w.heap.size w (w.alloc (.cells #[.int .i64 kind,.int .i64 side,.int .i64 (i:Int),vb] 72)):=(Below.refl _ _).alloc (Nat.le_refl _) _
 have hc2:(w.alloc (.cells #[.int .i64 kind,.int .i64 side,.int .i64 (i:Int),vb] 72)).cell? ⟨w.heap.size,2,none⟩ = some (.int .i64 (i:Int)):=(AA (heap_alloc_new w _) 2).trans rfl
 have J9:=Lib.hid (h.sub hba)
 have Ir:=Lib.hid hba
 have H:=Lib.hid h
 have HI:=Lib.hid hi
 have HL:=Lib.hid Fh
 have Um:=Lib.hid hf
 have Gf:=Lib.hid hbt
 have KE:=Lib.hid hp
 have OK:=Lib.hid hok
 have Gv:=Lib.hid hll
 have HT:=Lib.hid hT
 clear h hba hi Fh hf hbt hp hok hll hT
 go_enter Try.func112,Try.ntmps112
 go_wp2_with (first | (go_at_call 128; (have hc:=KW J9.out i HI.out HL.out); rw [Um.out] at hc; (with_reducible refine hc.mono ?_); clear hc; rintro e w3 ⟨b3,rfl,FT,Qj⟩; (obtain ⟨Ab,cb,hb3⟩:=Kd.Am FT); (subst hb3); (obtain ⟨CQ,Ho,wv1,hP1,hg1,hk1,hb1⟩:=Qj); (have EU:=Lib.hid hP1); (have OL:=Lib.hid ((Grew.refl w own).trans Ir.out.size hg1)); (have MJ:=Lib.hid (show Kept w w3 (fun k => k = gp ∨ own 1 k ∨ own 3 k) from (Kept.of_below Ir.out _).BQ hk1 (fun k hk => .inl (.inl hk)))); (have HB1:=Lib.hid ((Ir.out.mono H.out.hB).trans hb1)); (have HR3:=Lib.hid (Kd.BV FT (fun k hk => hg1.1 5 k hk))); (have HZ3:=Lib.hid (heap_alloc_new w3 (.cells #[.int .i64 0,.int .u32 0,.int .i64 0,.int .u32 0,.int .u32 0,.int .u32 0,.int .u32 0,.int .u32 0,.int .u32 0,.int .u32 0,.complex .f64 0 0,.slice none 0 0] 150))); (have OM:=Lib.hid (show Below w3.heap.size w3 (w3.alloc (.cells #[.int .i64 0,.int .u32 0,.int .i64 0,.int .u32 0,.int .u32 0,.int .u32 0,.int .u32 0,.int .u32 0,.int .u32 0,.int .u32 0,.complex .f64 0 0,.slice none 0 0] 150)) from (Below.refl _ _).alloc (Nat.le_refl _) _)); (clear hP1 hg1 hk1 hb1 FT)) | ((with_reducible refine gate_ (.store 150 (.tmp 5) (.tmp 12)) rfl ?_); (refine Ad rfl rfl 150 (.tmp 5) (.tmp 12) rfl w3.heap.size #[.int .i64 0,.int .u32 bt,.int .i64 p.kind,.int .u32 p.mine,.int .u32 p.AB,.int .u32 p.yours,.int .u32 p.seq,.int .u32 p.AV,.int .u32 p.stamp,.int .u32 p.echo,.complex .f64 p.zr p.zi,.slice Ab p.body.length cb] rfl rfl 150 _ HZ3.out (by kernel_rfl) rfl (by kernel_rfl) ?_); (intro w4 hb4 Gt); (have HB4:=Lib.hid hb4); (have FP:=Lib.hid (Gt.below OM.out (Nat.le_refl _))); (have hd0:w4.cell? ⟨w3.heap.size,0,none⟩ = some (.int .i64 0):=(AA HB4.out 0).trans rfl); (clear hb4 Gt)))
 go_quiet (fail)
 rename Nat => nq1
 go_wp2_with fail
 have hbd:=AZ (Bd FP.out nq1)
 have hSS:(w4.drewN nq1).drew.heap[gp]? = some (.cells (BK ({ X with way:=X.way.eraseIdx i }:Pr) ge Ho wv1) 143 (0,0)) ∧ (w4.drewN nq1).drew.heap[w3.heap.size]? = some (.cells #[.int .i64 0,.int .u32 bt,.int .i64 p.kind,.int .u32 p.mine,.int .u32 p.AB,.int .u32 p.yours,.int .u32 p.seq,.int .u32 p.AV,.int .u32 p.stamp,.int .u32 p.echo,.complex .f64 p.zr p.zi,.slice Ab p.body.length cb] 150 (0,0)):=⟨(EU.out.sub hbd).blk,HB4.out⟩
 clear HB4 FP HZ3 OM hd0
 refine BA (n:=15) (S:=fun w' => w'.heap[gp]? = some (.cells (BK ({ X with way:=X.way.eraseIdx i }:Pr) ge Ho wv1) 143 (0,0)) ∧ w'.heap[w3.heap.size]? = some (.cells #[.int .i64 0,.int .u32 bt,.int .i64 p.kind,.int .u32 p.mine,.int .u32 p.AB,.int .u32 p.yours,.int .u32 p.seq,.int .u32 p.AV,.int .u32 p.stamp,.int .u32 p.echo,.complex .f64 p.zr p.zi,.slice Ab p.body.length cb] 150 (0,0))) (ds:=[13]) Vp (by kernel_rfl) rfl rfl (hSS) (fun hHeld => ?_)
 generalize (w4.drewN nq1).drew = w6 at hbd hHeld ⊢
 have BB:=Lib.hid hbd
 clear hbd
 refine pu 0 20 Vq ?_
 refine pu 1 21 Vr ?_
 refine pu 2 22 Vs ?_
 refine tk 3 23 Vt hHeld ?_ (hf:=by intro w' s0; have hc2:w'.cell? ⟨gp,0,none⟩ = some (.pointer (some ⟨ge 0,0,none⟩)):=(AA s0.1 0).trans rfl; clear s0; go_simp; rfl)
 refine pu 4 24 Vu ?_
 refine tk 5 25 Vw hHeld ?_ (hf:=by intro w' s0; have hc3:w'.cell? ⟨w3.heap.size,1,none⟩ = some (.int .u32 bt):=(AA s0.2 1).trans rfl; clear s0; go_simp; with_reducible rfl)
 refine pu 6 26 Vx ?_
 refine tk 7 27 Vy hHeld ?_ (hf:=by intro w' s0; have CP:=Try.underlying27; have hd2:w'.cell? ⟨w3.heap.size,2,none⟩ = some (.int .i64 p.kind):=(AA s0.2 2).trans rfl; have hd3:w'.cell? ⟨w3.heap.size,3,none⟩ = some (.int .u32 p.mine):=(AA s0.2 3).trans rfl; have hd4:w'.cell? ⟨w3.heap.size,4,none⟩ = some (.int .u32 p.AB):=(AA s0.2 4).trans rfl; have hd5:w'.cell? ⟨w3.heap.size,5,none⟩ = some (.int .u32 p.yours):=(AA s0.2 5).trans rfl; have hd6:w'.cell? ⟨w3.heap.size,6,none⟩ = some (.int .u32 p.seq):=(AA s0.2 6).trans rfl; have hd7:w'.cell? ⟨w3.heap.size,7,none⟩ = some (.int .u32 p.AV):=(AA s0.2 7).trans rfl; have hd8:w'.cell? ⟨w3.heap.size,8,none⟩ = some (.int .u32 p.stamp):=(AA s0.2 8).trans rfl; have hd9:w'.cell? ⟨w3.heap.size,9,none⟩ = some (.int .u32 p.echo):=(AA s0.2 9).trans rfl; have hd10:w'.cell? ⟨w3.heap.size,10,none⟩ = some (.complex .f64 p.zr p.zi):=(AA s0.2 10).trans rfl; have hd11:w'.cell? ⟨w3.heap.size,11,none⟩ = some (.slice Ab p.body.length cb):=(AA s0.2 11).trans rfl; clear s0; go_simp; try rfl)
 refine Lm (σ:=Nat × Option Addr × Nat) 2 Ql (fun s => [(28,.tuple #[.agg #[.bool hdb,.bool false,.bool true,.slice s.2.1 0 s.2.2],.int .i64 0]),(19,.tuple #[.agg #[.bool hdb,.bool false,.bool true,.slice s.2.1 0 s.2.2],.int .i64 0]),(29,.agg #[.bool hdb,.bool false,.bool true,.slice s.2.1 0 s.2.2]),(30,.int .i64 0),(7,.pointer (some ⟨s.1,0,none⟩))]) (fun s w' => aI w B gp ge own (({ X with way:=X.way.eraseIdx i }:Pr).set 0 (Ai (X.sd 0) L')) (fun k => k = gp ∨ own 1 k ∨ own 3 k) s.1 (.slice s.2.1 0 s.2.2) [] #[.bool false,.bool false,.bool false,.slice none 0 0] w') ?_ ?_
 rotate_left
 ·intro hcont
  refine OY (i:=8) (j:=12) (Ni:=some 28) (Nj:=some 7) Vz eP rfl rfl rfl rfl (by kernel_rfl) (by decide) (by decide) (fun K hK => ?_) (fun K hK => ?_)
  ·skip
   have hQ6:=(EU.out.sub BB.out)
   refine BH Try.func34 (by kernel_rfl) rfl #[.pointer (some ⟨ge 0,0,none⟩),.int .u32 bt,.agg #[.int .i64 p.kind,.int .u32 p.mine,.int .u32 p.AB,.int .u32 p.yours,.int .u32 p.seq,.int .u32 p.AV,.int .u32 p.stamp,.int .u32 p.echo,.complex .f64 p.zr p.zi,.slice Ab p.body.length cb]] (by rfl) rfl rfl (by (try simp only [List.map_toArray,List.map_cons,List.map_nil]); first | done | rfl) ?_
   have Bh:Calls Try.prog 34 #[.pointer (some ⟨ge 0,0,none⟩),.int .u32 bt,.agg #[.int .i64 p.kind,.int .u32 p.mine,.int .u32 p.AB,.int .u32 p.yours,.int .u32 p.seq,.int .u32 p.AV,.int .u32 p.stamp,.int .u32 p.echo,.complex .f64 p.zr p.zi,.slice Ab p.body.length cb]] w6 _:=DL (hQ6.e 0 (by decide)) hQ6.hB OK.out bt p Gf.out KE.out (cs:=cells p (.slice Ab p.body.length cb)) (CY:=CQ 5) (DY.2 ⟨_,rfl,Kd.BJ HR3.out (Kept.of_below BB.out (fun _ => False)) (fun _ _ hf => hf)⟩) (fun k hx hy => by have:=hQ6.EF 5 (1 + 0) k hx hy; omega)
   refine Bh.mono ?_
   clear Bh
   intro e w7 Ic
   have JJ:En w6 B (CQ (1 + 0)) (ge 0) (L',⟨hdb,false,true,[]⟩) e w7:=by
    have hh:=HT.out
    rw [← hh]
    exact Ic
   exact Z26
  ·skip
   refine EZ (by rfl) (N:=7) rfl (cs:=#[.bool false,.bool false,.bool false,.slice none 0 0]) (t:=56) (by first | (go_simp; done) | (go_simp; rfl)) ?_
   intro g7 Md w8 hbx hb8
   have Kz:w8.heap[gp]? = some (.cells (BK ({ X with way:=X.way.eraseIdx i }:Pr) ge Ho wv1) 143 (0,0)) ∧ w8.heap[w3.heap.size]? = some (.cells #[.int .i64 0,.int .u32 bt,.int .i64 p.kind,.int .u32 p.mine,.int .u32 p.AB,.int .u32 p.yours,.int .u32 p.seq,.int .u32 p.AV,.int .u32 p.stamp,.int .u32 p.echo,.complex .f64 p.zr p.zi,.slice Ab p.body.length cb] 150 (0,0)):=⟨(hb8.block gp (AQ hHeld.1)).trans hHeld.1,(hb8.block _ (AQ hHeld.2)).trans hHeld.2⟩
   have Un:=Lib.hid ((EU.out.sub BB.out).sub hb8)
   have GY:=AQ (EU.out.sub BB.out).blk
   have Uo:=BB.out.size
   have hz3:=MJ.out.1
   have QX:=Lib.hid (show w8.heap[g7]? = some (.cells #[.bool false,.bool false,.bool false,.slice none 0 0] 56 (0,0)) ∧ (g7 ≠ gp ∧ ∀ i,¬ CQ i g7) ∧ w.heap.size ≤ g7 from ⟨hbx,⟨by omega,fun i hi => by have:=(EU.out.sub BB.out).lt i g7 hi; omega⟩,by omega⟩)
   have Il:=Lib.hid hb8
   clear hbx GY Uo hz3 hHeld Md
   clear hb8
   refine hK.out _ _ Kz (fun hHeld => ?_)
   clear hK K Kz
   refine nm 7 ?_
   refine on 8 (some 28) eU fun K hK => ?_
   have hQ6:=Un.out
   refine BH Try.func34 (by kernel_rfl) rfl #[.pointer (some ⟨ge 0,0,none⟩),.int .u32 bt,.agg #[.int .i64 p.kind,.int .u32 p.mine,.int .u32 p.AB,.int .u32 p.yours,.int .u32 p.seq,.int .u32 p.AV,.int .u32 p.stamp,.int .u32 p.echo,.complex .f64 p.zr p.zi,.slice Ab p.body.length cb]] (by rfl) rfl rfl (by (try simp only [List.map_toArray,List.map_cons,List.map_nil]); first | done | rfl) ?_
   have Bh:Calls Try.prog 34 #[.pointer (some ⟨ge 0,0,none⟩),.int .u32 bt,.agg #[.int .i64 p.kind,.int .u32 p.mine,.int .u32 p.AB,.int .u32 p.yours,.int .u32 p.seq,.int .u32 p.AV,.int .u32 p.stamp,.int .u32 p.echo,.complex .f64 p.zr p.zi,.slice Ab p.body.length cb]] w8 _:=DL (hQ6.e 0 (by decide)) hQ6.hB OK.out bt p Gf.out KE.out (cs:=cells p (.slice Ab p.body.length cb)) (CY:=CQ 5) (DY.2 ⟨_,rfl,Kd.BJ HR3.out (Kept.of_below (BB.out.trans (Il.out.mono BB.out.size)) (fun _ => False)) (fun _ _ hf => hf)⟩) (fun k hx hy => by have:=hQ6.EF 5 (1 + 0) k hx hy; omega)
   refine Bh.mono ?_
   clear Bh
   intro e w7 Ic
   have JJ:En w8 B (CQ (1 + 0)) (ge 0) (L',⟨hdb,false,true,[]⟩) e w7:=by
    have hh:=HT.out
    rw [← hh]
    exact Ic
   exact Z24
 intro s9 w9 hF
 obtain ⟨g7,A7,c7⟩:=s9
 obtain ⟨Jg,QW,wv2,okb,hD⟩:=hF
 have HD:=Lib.hid hD
 clear hD
 refine Ig (a':=?_) ?_ ?_
 rotate_left
 ·show Dk _ _ = _
  simp only [Dk,Act.put,sA,sZ,sS]
  rfl
 have hc0:w9.cell? ⟨g7,0,none⟩ = some (.bool false):=(AA HD.out.t7 0).trans rfl
 have hf0:=AL HD.out.t7 0
 have hc1:w9.cell? ⟨g7,1,none⟩ = some (.bool false):=(AA HD.out.t7 1).trans rfl
 have hf1:=AL HD.out.t7 1
 have hc2:w9.cell? ⟨g7,2,none⟩ = some (.bool false):=(AA HD.out.t7 2).trans rfl
 have hf2:=AL HD.out.t7 2
 have hc3:w9.cell? ⟨g7,3,none⟩ = some (.slice none 0 0):=(AA HD.out.t7 3).trans rfl
 have hf3:=AL HD.out.t7 3
 refine la 13 none XW fun K hK => ?_
 refine CG (fun wz => wz.heap[g7]? = some (.cells #[.bool hdb,.bool false,.bool true,.slice A7 0 c7] 56 (0,0)) ∧ Steps.At g7 w9 wz) (by rfl) rfl ⟨_,by go_simp; rfl,?_,?_⟩ (fun w10 hF => ?_)
 ·skip
  exact Z33
 ·repeat (first | (with_reducible exact Steps.At.refl _ _) | refine Steps.At.set ?_ _ _)
 have DJ:=Lib.hid (HD.out.write H.out.hB hF.1 hF.2)
 clear hF HD hc0 hf0 hc1 hf1 hc2 hf2 hc3 hf3
 refine hK.out _ _ ?_
 clear hK K
 refine pu 14 8 XX ?_
 refine BG (by kernel_rfl) ?_
 have ht2:w10.cell? ⟨g7,2,none⟩ = some (.bool true):=(AA DJ.out.t7 2).trans rfl
 go_wp2_with (go_at_call 127; (have Bh:Calls Try.prog 127 #[.pointer (some ⟨gp,0,none⟩),.int .i64 2,.slice none 0 0] w10 _:=LV DJ.out.at_ 2 [] none 0 (Lu w10) (by decide) (by rw [Pr.Ae]; exact Gv.out)); (with_reducible refine Bh.mono ?_); clear Bh; rintro e w12 ⟨rfl,hM⟩; (have HM:=Lib.hid hM); clear hM; (have hu1:w12.cell? ⟨g7,1,none⟩ = some (.bool false):=cell_kept ((AA DJ.out.t7 1).trans rfl) HM.out.choose_spec.choose_spec.choose_spec.2.2.1 (fun hx => hx.elim (fun x => DJ.out.n7.1 x) (fun x => DJ.out.n7.2.1 _ x))); (have hu3:w12.cell? ⟨g7,3,none⟩ = some (.slice A7 0 c7):=cell_kept ((AA DJ.out.t7 3).trans rfl) HM.out.choose_spec.choose_spec.choose_spec.2.2.1 (fun hx => hx.elim (fun x => DJ.out.n7.1 x) (fun x => DJ.out.n7.2.1 _ x))))
 all_goals (go_ret; refine ⟨rfl,?_⟩)
 exact wY
theorem SS {w:World} {B gp:Nat} {ge:Nat → Nat} {own:Nat → Nat → Prop} {X:Pr} {lv:Nat → Value} {wv:Value} (h:Dj w B gp ge own X lv wv) (i:Nat) (hi:i < X.way.length) (Fh:X.way.length ≤ 1024) (bt:Int) (p:Bz) (hf:X.way.getD i DI = ⟨1,bt,p⟩) (hbt:0 < bt ∧ bt < 4294967296) (hp:p.Good) (hok:(X.sd 1).end_.Ok) (hll:(X.sd 1).log.length ≤ 1000000) (kind side:Int) (vb:Value) (L':Lk) (hdb:Bool) (hT:Bf (X.sd 1).end_ bt p = (L',⟨hdb,false,true,[]⟩)) :
  Calls Try.prog 112 #[.pointer (some ⟨gp,0,none⟩),.agg #[.int .i64 kind,.int .i64 side,.int .i64 (i:Int),vb]] w fun e w' => e = .returned (.int .i64 0) ∧ Moves w B gp ge own (({ X with way:=X.way.eraseIdx i }:Pr).set 1 (DZ (Ai (X.sd 1) L') 2 [])) (fun k => k = gp ∨ own 2 k ∨ own 4 k) w':=by
 have hba:Below w.heap.size w (w.alloc (.cells #[.int .i64 kind,.int .i64 side,.int .i64 (i:Int),vb] 72)):=(Below.refl _ _).alloc (Nat.le_refl _) _
 have hc2:(w.alloc (.cells #[.int .i64 kind,.int .i64 side,.int .i64 (i:Int),vb] 72)).cell? ⟨w.heap.size,2,none⟩ = some (.int .i64 (i:Int)):=(AA (heap_alloc_new w _) 2).trans rfl
 have J9:=Lib.hid (h.sub hba)
 have Ir:=Lib.hid hba
 have H:=Lib.hid h
 have HI:=Lib.hid hi
 have HL:=Lib.hid Fh
 have Um:=Lib.hid hf
 have Gf:=Lib.hid hbt
 have KE:=Lib.hid hp
 have OK:=Lib.hid hok
 have Gv:=Lib.hid hll
 have HT:=Lib.hid hT
 clear h hba hi Fh hf hbt hp hok hll hT
 go_enter Try.func112,Try.ntmps112
 go_wp2_with (first | (go_at_call 128; (have hc:=KW J9.out i HI.out HL.out); rw [Um.out] at hc; (with_reducible refine hc.mono ?_); clear hc; rintro e w3 ⟨b3,rfl,FT,Qj⟩; (obtain ⟨Ab,cb,hb3⟩:=Kd.Am FT); (subst hb3); (obtain ⟨CQ,Ho,wv1,hP1,hg1,hk1,hb1⟩:=Qj); (have EU:=Lib.hid hP1); (have OL:=Lib.hid ((Grew.refl w own).trans Ir.out.size hg1)); (have MJ:=Lib.hid (show Kept w w3 (fun k => k = gp ∨ own 2 k ∨ own 4 k) from (Kept.of_below Ir.out _).BQ hk1 (fun k hk => .inl (.inl hk)))); (have HB1:=Lib.hid ((Ir.out.mono H.out.hB).trans hb1)); (have HR3:=Lib.hid (Kd.BV FT (fun k hk => hg1.1 5 k hk))); (have HZ3:=Lib.hid (heap_alloc_new w3 (.cells #[.int .i64 0,.int .u32 0,.int .i64 0,.int .u32 0,.int .u32 0,.int .u32 0,.int .u32 0,.int .u32 0,.int .u32 0,.int .u32 0,.complex .f64 0 0,.slice none 0 0] 150))); (have OM:=Lib.hid (show Below w3.heap.size w3 (w3.alloc (.cells #[.int .i64 0,.int .u32 0,.int .i64 0,.int .u32 0,.int .u32 0,.int .u32 0,.int .u32 0,.int .u32 0,.int .u32 0,.int .u32 0,.complex .f64 0 0,.slice none 0 0] 150)) from (Below.refl _ _).alloc (Nat.le_refl _) _)); (clear hP1 hg1 hk1 hb1 FT)) | ((with_reducible refine gate_ (.store 150 (.tmp 5) (.tmp 12)) rfl ?_); (refine Ad rfl rfl 150 (.tmp 5) (.tmp 12) rfl w3.heap.size #[.int .i64 1,.int .u32 bt,.int .i64 p.kind,.int .u32 p.mine,.int .u32 p.AB,.int .u32 p.yours,.int .u32 p.seq,.int .u32 p.AV,.int .u32 p.stamp,.int .u32 p.echo,.complex .f64 p.zr p.zi,.slice Ab p.body.length cb] rfl rfl 150 _ HZ3.out (by kernel_rfl) rfl (by kernel_rfl) ?_); (intro w4 hb4 Gt); (have HB4:=Lib.hid hb4); (have FP:=Lib.hid (Gt.below OM.out (Nat.le_refl _))); (have hd0:w4.cell? ⟨w3.heap.size,0,none⟩ = some (.int .i64 1):=(AA HB4.out 0).trans rfl); (clear hb4 Gt)))
 go_quiet (fail)
 rename Nat => nq1
 go_wp2_with fail
 have hbd:=AZ (Bd FP.out nq1)
 have hSS:(w4.drewN nq1).drew.heap[gp]? = some (.cells (BK ({ X with way:=X.way.eraseIdx i }:Pr) ge Ho wv1) 143 (0,0)) ∧ (w4.drewN nq1).drew.heap[w3.heap.size]? = some (.cells #[.int .i64 1,.int .u32 bt,.int .i64 p.kind,.int .u32 p.mine,.int .u32 p.AB,.int .u32 p.yours,.int .u32 p.seq,.int .u32 p.AV,.int .u32 p.stamp,.int .u32 p.echo,.complex .f64 p.zr p.zi,.slice Ab p.body.length cb] 150 (0,0)):=⟨(EU.out.sub hbd).blk,HB4.out⟩
 clear HB4 FP HZ3 OM hd0
 refine BA (n:=15) (S:=fun w' => w'.heap[gp]? = some (.cells (BK ({ X with way:=X.way.eraseIdx i }:Pr) ge Ho wv1) 143 (0,0)) ∧ w'.heap[w3.heap.size]? = some (.cells #[.int .i64 1,.int .u32 bt,.int .i64 p.kind,.int .u32 p.mine,.int .u32 p.AB,.int .u32 p.yours,.int .u32 p.seq,.int .u32 p.AV,.int .u32 p.stamp,.int .u32 p.echo,.complex .f64 p.zr p.zi,.slice Ab p.body.length cb] 150 (0,0))) (ds:=[13]) Vp (by kernel_rfl) rfl rfl (hSS) (fun hHeld => ?_)
 generalize (w4.drewN nq1).drew = w6 at hbd hHeld ⊢
 have BB:=Lib.hid hbd
 clear hbd
 refine pu 0 20 Vq ?_
 refine pu 1 21 Vr ?_
 refine pu 2 22 Vs ?_
 refine tk 3 23 Vt hHeld ?_ (hf:=by intro w' s0; have hc2:w'.cell? ⟨gp,9,none⟩ = some (.pointer (some ⟨ge 1,0,none⟩)):=(AA s0.1 9).trans rfl; clear s0; go_simp; rfl)
 refine pu 4 24 Vu ?_
 refine tk 5 25 Vw hHeld ?_ (hf:=by intro w' s0; have hc3:w'.cell? ⟨w3.heap.size,1,none⟩ = some (.int .u32 bt):=(AA s0.2 1).trans rfl; clear s0; go_simp; with_reducible rfl)
 refine pu 6 26 Vx ?_
 refine tk 7 27 Vy hHeld ?_ (hf:=by intro w' s0; have CP:=Try.underlying27; have hd2:w'.cell? ⟨w3.heap.size,2,none⟩ = some (.int .i64 p.kind):=(AA s0.2 2).trans rfl; have hd3:w'.cell? ⟨w3.heap.size,3,none⟩ = some (.int .u32 p.mine):=(AA s0.2 3).trans rfl; have hd4:w'.cell? ⟨w3.heap.size,4,none⟩ = some (.int .u32 p.AB):=(AA s0.2 4).trans rfl; have hd5:w'.cell? ⟨w3.heap.size,5,none⟩ = some (.int .u32 p.yours):=(AA s0.2 5).trans rfl; have hd6:w'.cell? ⟨w3.heap.size,6,none⟩ = some (.int .u32 p.seq):=(AA s0.2 6).trans rfl; have hd7:w'.cell? ⟨w3.heap.size,7,none⟩ = some (.int .u32 p.AV):=(AA s0.2 7).trans rfl; have hd8:w'.cell? ⟨w3.heap.size,8,none⟩ = some (.int .u32 p.stamp):=(AA s0.2 8).trans rfl; have hd9:w'.cell? ⟨w3.heap.size,9,none⟩ = some (.int .u32 p.echo):=(AA s0.2 9).trans rfl; have hd10:w'.cell? ⟨w3.heap.size,10,none⟩ = some (.complex .f64 p.zr p.zi):=(AA s0.2 10).trans rfl; have hd11:w'.cell? ⟨w3.heap.size,11,none⟩ = some (.slice Ab p.body.length cb):=(AA s0.2 11).trans rfl; clear s0; go_simp; try rfl)
 refine Lm (σ:=Nat × Option Addr × Nat) 2 Ql (fun s => [(28,.tuple #[.agg #[.bool hdb,.bool false,.bool true,.slice s.2.1 0 s.2.2],.int .i64 0]),(19,.tuple #[.agg #[.bool hdb,.bool false,.bool true,.slice s.2.1 0 s.2.2],.int .i64 0]),(29,.agg #[.bool hdb,.bool false,.bool true,.slice s.2.1 0 s.2.2]),(30,.int .i64 0),(7,.pointer (some ⟨s.1,0,none⟩))]) (fun s w' => aI w B gp ge own (({ X with way:=X.way.eraseIdx i }:Pr).set 1 (Ai (X.sd 1) L')) (fun k => k = gp ∨ own 2 k ∨ own 4 k) s.1 (.slice s.2.1 0 s.2.2) [] #[.bool false,.bool false,.bool false,.slice none 0 0] w') ?_ ?_
 rotate_left
 ·intro hcont
  refine OY (i:=8) (j:=12) (Ni:=some 28) (Nj:=some 7) Vz eP rfl rfl rfl rfl (by kernel_rfl) (by decide) (by decide) (fun K hK => ?_) (fun K hK => ?_)
  ·skip
   have hQ6:=(EU.out.sub BB.out)
   refine BH Try.func34 (by kernel_rfl) rfl #[.pointer (some ⟨ge 1,0,none⟩),.int .u32 bt,.agg #[.int .i64 p.kind,.int .u32 p.mine,.int .u32 p.AB,.int .u32 p.yours,.int .u32 p.seq,.int .u32 p.AV,.int .u32 p.stamp,.int .u32 p.echo,.complex .f64 p.zr p.zi,.slice Ab p.body.length cb]] (by rfl) rfl rfl (by (try simp only [List.map_toArray,List.map_cons,List.map_nil]); first | done | rfl) ?_
   have Bh:Calls Try.prog 34 #[.pointer (some ⟨ge 1,0,none⟩),.int .u32 bt,.agg #[.int .i64 p.kind,.int .u32 p.mine,.int .u32 p.AB,.int .u32 p.yours,.int .u32 p.seq,.int .u32 p.AV,.int .u32 p.stamp,.int .u32 p.echo,.complex .f64 p.zr p.zi,.slice Ab p.body.length cb]] w6 _:=DL (hQ6.e 1 (by decide)) hQ6.hB OK.out bt p Gf.out KE.out (cs:=cells p (.slice Ab p.body.length cb)) (CY:=CQ 5) (DY.2 ⟨_,rfl,Kd.BJ HR3.out (Kept.of_below BB.out (fun _ => False)) (fun _ _ hf => hf)⟩) (fun k hx hy => by have:=hQ6.EF 5 (1 + 1) k hx hy; omega)
   refine Bh.mono ?_
   clear Bh
   intro e w7 Ic
   have JJ:En w6 B (CQ (1 + 1)) (ge 1) (L',⟨hdb,false,true,[]⟩) e w7:=by
    have hh:=HT.out
    rw [← hh]
    exact Ic
   exact Z27
  ·skip
   refine EZ (by rfl) (N:=7) rfl (cs:=#[.bool false,.bool false,.bool false,.slice none 0 0]) (t:=56) (by first | (go_simp; done) | (go_simp; rfl)) ?_
   intro g7 Md w8 hbx hb8
   have Kz:w8.heap[gp]? = some (.cells (BK ({ X with way:=X.way.eraseIdx i }:Pr) ge Ho wv1) 143 (0,0)) ∧ w8.heap[w3.heap.size]? = some (.cells #[.int .i64 1,.int .u32 bt,.int .i64 p.kind,.int .u32 p.mine,.int .u32 p.AB,.int .u32 p.yours,.int .u32 p.seq,.int .u32 p.AV,.int .u32 p.stamp,.int .u32 p.echo,.complex .f64 p.zr p.zi,.slice Ab p.body.length cb] 150 (0,0)):=⟨(hb8.block gp (AQ hHeld.1)).trans hHeld.1,(hb8.block _ (AQ hHeld.2)).trans hHeld.2⟩
   have Un:=Lib.hid ((EU.out.sub BB.out).sub hb8)
   have GY:=AQ (EU.out.sub BB.out).blk
   have Uo:=BB.out.size
   have hz3:=MJ.out.1
   have QX:=Lib.hid (show w8.heap[g7]? = some (.cells #[.bool false,.bool false,.bool false,.slice none 0 0] 56 (0,0)) ∧ (g7 ≠ gp ∧ ∀ i,¬ CQ i g7) ∧ w.heap.size ≤ g7 from ⟨hbx,⟨by omega,fun i hi => by have:=(EU.out.sub BB.out).lt i g7 hi; omega⟩,by omega⟩)
   have Il:=Lib.hid hb8
   clear hbx GY Uo hz3 hHeld Md
   clear hb8
   refine hK.out _ _ Kz (fun hHeld => ?_)
   clear hK K Kz
   refine nm 7 ?_
   refine on 8 (some 28) eU fun K hK => ?_
   have hQ6:=Un.out
   refine BH Try.func34 (by kernel_rfl) rfl #[.pointer (some ⟨ge 1,0,none⟩),.int .u32 bt,.agg #[.int .i64 p.kind,.int .u32 p.mine,.int .u32 p.AB,.int .u32 p.yours,.int .u32 p.seq,.int .u32 p.AV,.int .u32 p.stamp,.int .u32 p.echo,.complex .f64 p.zr p.zi,.slice Ab p.body.length cb]] (by rfl) rfl rfl (by (try simp only [List.map_toArray,List.map_cons,List.map_nil]); first | done | rfl) ?_
   have Bh:Calls Try.prog 34 #[.pointer (some ⟨ge 1,0,none⟩),.int .u32 bt,.agg #[.int .i64 p.kind,.int .u32 p.mine,.int .u32 p.AB,.int .u32 p.yours,.int .u32 p.seq,.int .u32 p.AV,.int .u32 p.stamp,.int .u32 p.echo,.complex .f64 p.zr p.zi,.slice Ab p.body.length cb]] w8 _:=DL (hQ6.e 1 (by decide)) hQ6.hB OK.out bt p Gf.out KE.out (cs:=cells p (.slice Ab p.body.length cb)) (CY:=CQ 5) (DY.2 ⟨_,rfl,Kd.BJ HR3.out (Kept.of_below (BB.out.trans (Il.out.mono BB.out.size)) (fun _ => False)) (fun _ _ hf => hf)⟩) (fun k hx hy => by have:=hQ6.EF 5 (1 + 1) k hx hy; omega)
   refine Bh.mono ?_
   clear Bh
   intro e w7 Ic
   have JJ:En w8 B (CQ (1 + 1)) (ge 1) (L',⟨hdb,false,true,[]⟩) e w7:=by
    have hh:=HT.out
    rw [← hh]
    exact Ic
   exact Z25
 intro s9 w9 hF
 obtain ⟨g7,A7,c7⟩:=s9
 obtain ⟨Jg,QW,wv2,okb,hD⟩:=hF
 have HD:=Lib.hid hD
 clear hD
 refine Ig (a':=?_) ?_ ?_
 rotate_left
 ·show Dk _ _ = _
  simp only [Dk,Act.put,sA,sZ,sS]
  rfl
 have hc0:w9.cell? ⟨g7,0,none⟩ = some (.bool false):=(AA HD.out.t7 0).trans rfl
 have hf0:=AL HD.out.t7 0
 have hc1:w9.cell? ⟨g7,1,none⟩ = some (.bool false):=(AA HD.out.t7 1).trans rfl
 have hf1:=AL HD.out.t7 1
 have hc2:w9.cell? ⟨g7,2,none⟩ = some (.bool false):=(AA HD.out.t7 2).trans rfl
 have hf2:=AL HD.out.t7 2
 have hc3:w9.cell? ⟨g7,3,none⟩ = some (.slice none 0 0):=(AA HD.out.t7 3).trans rfl
 have hf3:=AL HD.out.t7 3
 refine la 13 none XW fun K hK => ?_
 refine CG (fun wz => wz.heap[g7]? = some (.cells #[.bool hdb,.bool false,.bool true,.slice A7 0 c7] 56 (0,0)) ∧ Steps.At g7 w9 wz) (by rfl) rfl ⟨_,by go_simp; rfl,?_,?_⟩ (fun w10 hF => ?_)
 ·skip
  exact Z33
 ·repeat (first | (with_reducible exact Steps.At.refl _ _) | refine Steps.At.set ?_ _ _)
 have DJ:=Lib.hid (HD.out.write H.out.hB hF.1 hF.2)
 clear hF HD hc0 hf0 hc1 hf1 hc2 hf2 hc3 hf3
 refine hK.out _ _ ?_
 clear hK K
 refine pu 14 8 XX ?_
 refine BG (by kernel_rfl) ?_
 have ht2:w10.cell? ⟨g7,2,none⟩ = some (.bool true):=(AA DJ.out.t7 2).trans rfl
 go_wp2_with (go_at_call 127; (have Bh:Calls Try.prog 127 #[.pointer (some ⟨gp,9,none⟩),.int .i64 2,.slice none 0 0] w10 _:=LW DJ.out.at_ 2 [] none 0 (Lu w10) (by decide) (by rw [Pr.Ae]; exact Gv.out)); (with_reducible refine Bh.mono ?_); clear Bh; rintro e w12 ⟨rfl,hM⟩; (have HM:=Lib.hid hM); clear hM; (have hu1:w12.cell? ⟨g7,1,none⟩ = some (.bool false):=cell_kept ((AA DJ.out.t7 1).trans rfl) HM.out.choose_spec.choose_spec.choose_spec.2.2.1 (fun hx => hx.elim (fun x => DJ.out.n7.1 x) (fun x => DJ.out.n7.2.1 _ x))); (have hu3:w12.cell? ⟨g7,3,none⟩ = some (.slice A7 0 c7):=cell_kept ((AA DJ.out.t7 3).trans rfl) HM.out.choose_spec.choose_spec.choose_spec.2.2.1 (fun hx => hx.elim (fun x => DJ.out.n7.1 x) (fun x => DJ.out.n7.2.1 _ x))))
 all_goals (go_ret; refine ⟨rfl,?_⟩)
 exact wY
end Go.Proofs.Ytnkkgofpifhoeaa.Pr
end
