/- What the laws of a pair are proved with: links and pairs in memory, what their methods do, what a pair keeps to (part 19). -/
import Derived.Test.YtnkkgofpifhoeaaPE18
set_option linter.unusedSimpArgs false
set_option linter.unusedVariables false
set_option maxRecDepth 100000
set_option maxHeartbeats 16000000
section
namespace Go.Proofs.Ytnkkgofpifhoeaa.Pr
open Go.RowKit Go.Proofs.Ytnkkgofpifhoeaa.Base Go.Proofs.Ytnkkgofpifhoeaa.Steps Go.Proofs.Ytnkkgofpifhoeaa.Lk Go.Proofs.Ytnkkgofpifhoeaa.Fg Go.Proofs.YtnkkgofpifhoeaaW.PrintWords Go.Proofs.YtnkkgofpifhoeaaW.PrintLast
theorem PL.put {w wr w1:World} {B gp s j:Nat} {U JP:Nat → Prop} {X Yi:Pr} {b b0:Int} {o:Value} {ps:List Bz} {ge:Nat → Nat} {own:Nat → Nat → Prop} {lv:Nat → Value} {wv:Value} {p:Bz} {A2:Option Addr} {c2:Nat} (d:Int) (hd:d = 1 - (s:Int)) (hj:j < ps.length) (hY:Yi = DU X s b (ps.take j)) (hp:p = ps.getD j Oe) (hb0:b0 = b)
  (hP:Dj wr B gp ge own Yi lv wv) (hU:∀ i k,own i k → newer U w k) (hx:∀ k,JP k → own 5 k) (hR:pkt.R 27 wr B JP o ps) (hk:Kept w wr (fun k => k = gp ∨ U k)) (hb:Below B w wr) (h1:Below wr.heap.size wr w1) (lU:Yi.way.length ≤ 1024) (P6:(Kd.int .u8).R 5 wr B JP (.slice A2 p.body.length c2) p.body) :
  Calls Try.prog 83 #[.pointer (some ⟨gp,0,none⟩),.agg #[.int .i64 d,.int .u32 b0,.int .i64 p.kind,.int .u32 p.mine,.int .u32 p.AB,.int .u32 p.yours,.int .u32 p.seq,.int .u32 p.AV,.int .u32 p.stamp,.int .u32 p.echo,.complex .f64 p.zr p.zi,.slice A2 p.body.length c2]] w1 fun e w' => e = .returned (.tuple #[]) ∧ PL w B gp U X s b o ps (j + 1) w':=by
 subst hd hY hb0
 refine (Yf (hP.sub h1) ⟨1 - (s:Int),b0,p⟩ (.slice A2 p.body.length c2) (YR.2 ⟨_,rfl,Kd.BV (Kd.Ee P6 h1) hx⟩) lU).mono fun e w' hq => ⟨hq.1,?_⟩
 have hM:=hq.2
 rw [hp] at hM
 exact PL.step hj hP hU hx hR hk hb h1 hM
theorem Z1 {p:Prop} (h:p:=by
 go_wp2_with fail
 go_quiet (fail)
 rename Nat => nq1
 have AAP:=Try.underlying72
 go_wp2_with (rw [VB HFN.out HNM.out HBS.out,Oper.upon_enter]; (refine (ZX.out (w3.drewN nq1) (Bd HB3.out nq1)).mono ?_); (rintro e w6 ⟨rfl,hT⟩); (have HW6:=Lib.hid (CS.from_ H.out.hB (Bd HB3.out nq1) hT)); (clear hT))
 refine wp_loop_rounds 3 ?_
 obtain ⟨⟨ge0,AFo,lv0,wv0,hP,hU⟩,hk,hb⟩:=HW6.out
 have AAT:w6.cell? ⟨gp,0,none⟩ = some (.pointer (some ⟨ge0 0,0,none⟩)):=(AA hP.blk 0).trans rfl
 have HP0:=Lib.hid hP
 have HU0:=Lib.hid hU
 have HK0:=Lib.hid hk
 have HB0:=Lib.hid hb
 clear hP hU hk hb
 rw [rounds_succ]
 go_wp2_with (go_at_call 32; (have hc:=O0 (HP0.out.e 0 (by decide))); (with_reducible refine hc.mono ?_); clear hc; rintro e wo0 ⟨o1,JP,own',rfl,hE,ho,hR,hx,hkp,hz,hb,hg⟩; (obtain ⟨XK,c10,ho1⟩:=Kd.Am hR); subst ho1; (have bJ:=Lib.hid (PL.start (s:=0) (by decide) HP0.out HU0.out HK0.out HB0.out hE ho hR hx hkp hz hb hg)); (clear hE ho hR hx hkp hz hb hg))
 have AFr:=lV.out
 generalize uO:(Y.sd 0).end_.out.length = n0 at *
 have wu:=Lib.hid uO
 clear uO AAT
 go_loopg [72] n0 (fun m v wr => ∃ i:Nat,m = n0 - i ∧ i ≤ n0 ∧ v = .int .i64 (i:Int) ∧ PL w B gp U (Y.set 0 { Y.sd 0 with end_:=Fq (Y.sd 0).end_ }) 0 (Y.sd 0).AB (.slice XK n0 c10) (Y.sd 0).end_.out i wr)
 case atStart => exact ⟨0,rfl,Nat.zero_le _,rfl,bJ.out⟩
 case round =>
  obtain ⟨i,hm,hin,rfl,hF⟩:=hrel
  have HM0:=Lib.hid hm
  have AAU:=Lib.hid hin
  have ny:=Lib.hid hF
  clear hm hin hF
  by_cases hlt:(i:Int) < (n0:Int)
  ·have hd:decide ((i:Int) < (n0:Int)) = true:=by simp [hlt]
   have hsz:=ny.out.size
   have OU:=Lib.hid hsz
   clear hsz
   obtain ⟨ge,own,lv,wv,JP,hP,hU,hx,hR,hk,hb⟩:=ny.out
   obtain ⟨gx,cs,hA1,hM,hrg,hcl,hnp⟩:=Q7 hR i (by omega)
   subst hA1
   obtain ⟨b2,hb2,P6⟩:=DY.1 hM
   subst hb2
   obtain ⟨A2,c2,hb3⟩:=Kd.Am P6
   subst hb3
   obtain ⟨Yi,ZY⟩:∃ Yi,Yi = DU (Y.set 0 { Y.sd 0 with end_:=Fq (Y.sd 0).end_ }) ((0:Nat):Int) (Y.sd 0).AB ((Y.sd 0).end_.out.take i):=⟨_,rfl⟩
   rw [← ZY] at hP
   obtain ⟨b0,hb0⟩:∃ b0,b0 = (Y.sd 0).AB:=⟨_,rfl⟩
   have uP:(Yi.sd 0).AB = b0:=by rw [ZY,Gm,hb0]; rfl
   have lU:Yi.way.length ≤ 1024:=by rw [ZY]; exact FW _ _ _ _ lW.out
   obtain ⟨p,hp⟩:∃ p,p = (Y.sd 0).end_.out.getD i Oe:=⟨_,rfl⟩
   rw [← hp] at P6 hrg hcl hM
   have uQ:=Lib.hid hP
   have AAV:=Lib.hid hU
   have AAW:=Lib.hid hx
   have AAX:=Lib.hid hR
   have AAY:=Lib.hid hk
   have AAZ:=Lib.hid hb
   have uS:=Lib.hid P6
   have uT:=Lib.hid hrg
   have uU:=Lib.hid ZY
   have uV:=Lib.hid hb0
   have uX:=Lib.hid uP
   have uY:=Lib.hid lU
   have uZ:=Lib.hid hp
   have Vh:=Lib.hid hlt
   clear hP hU hx hR hk hb P6 hrg hcl hM ZY hb0 uP lU hp hnp hlt
   have hlt:i < n0:=by have:=Vh.out; omega
   have HZ0:=Lib.hid (heap_alloc_new wr (.cells #[.int .i64 0,.int .u32 0,.int .u32 0,.int .u32 0,.int .u32 0,.int .u32 0,.int .u32 0,.int .u32 0,.complex .f64 0 0,.slice none 0 0] 27))
   go_wp2_with (first | ((with_reducible refine AO (N:=75) rfl ?_); (refine wpList_load_mid rfl 27 (.tmp 74) rfl gx (i * 10) (by first | rfl | (simp; done)) (cells p (.slice A2 p.body.length c2)) _ uT.out Try.underlying27 rfl (by kernel_rfl) ?_)) | ((with_reducible refine gate_ (.store 27 (.tmp 10) (.tmp 75)) rfl ?_); (refine Ad rfl rfl 27 (.tmp 10) (.tmp 75) rfl wr.heap.size #[.int .i64 p.kind,.int .u32 p.mine,.int .u32 p.AB,.int .u32 p.yours,.int .u32 p.seq,.int .u32 p.AV,.int .u32 p.stamp,.int .u32 p.echo,.complex .f64 p.zr p.zi,.slice A2 p.body.length c2] rfl rfl 27 _ HZ0.out (by kernel_rfl) rfl (by kernel_rfl) ?_); (intro w8 hb8 RJ); (have Il:=Lib.hid hb8); (have ZZ:=Lib.hid (RJ.below ((Below.refl wr.heap.size wr).alloc (Nat.le_refl _) _) (Nat.le_refl _))); (clear hb8 RJ)))
   have hbd:=AZ ZZ.out
   have hSS:w8.drew.heap[gp]? = some (.cells (BK Yi ge lv wv) 143 (0,0)) ∧ w8.drew.heap[wr.heap.size]? = some (.cells #[.int .i64 p.kind,.int .u32 p.mine,.int .u32 p.AB,.int .u32 p.yours,.int .u32 p.seq,.int .u32 p.AV,.int .u32 p.stamp,.int .u32 p.echo,.complex .f64 p.zr p.zi,.slice A2 p.body.length c2] 27 (0,0)):=⟨(uQ.out.sub hbd).blk,Il.out⟩
   clear Il ZZ
   refine BA (n:=13) (S:=fun w' => w'.heap[gp]? = some (.cells (BK Yi ge lv wv) 143 (0,0)) ∧ w'.heap[wr.heap.size]? = some (.cells #[.int .i64 p.kind,.int .u32 p.mine,.int .u32 p.AB,.int .u32 p.yours,.int .u32 p.seq,.int .u32 p.AV,.int .u32 p.stamp,.int .u32 p.echo,.complex .f64 p.zr p.zi,.slice A2 p.body.length c2] 27 (0,0))) (ds:=[12]) vW (by kernel_rfl) rfl rfl (hSS) (fun hHeld => ?_)
   generalize w8.drew = w9 at hbd hHeld ⊢
   have BB:=Lib.hid hbd
   clear hbd
   refine pu 0 76 xE ?_
   refine pu 1 77 M0V ?_
   refine pu 2 78 M0W ?_
   refine pu 3 79 M0X ?_
   refine pu 4 80 M0Z ?_
   refine pu 5 81 M10 ?_
   refine pu 6 82 M12 ?_
   refine pu 7 83 M13 ?_
   refine pu 8 84 xG ?_
   refine tk 9 85 xH hHeld ?_ (hf:=by intro w' s0; have hc1:w'.cell? ⟨gp,1,none⟩ = some (.int .u32 b0):=(AA s0.1 1).trans (by rw [← uX.out]; rfl); clear s0; go_simp; rfl)
   refine tk 10 86 vX hHeld ?_ (hf:=by intro w' s0; have CP:=Try.underlying27; have hd0:w'.cell? ⟨wr.heap.size,0,none⟩ = some (.int .i64 p.kind):=(AA s0.2 0).trans rfl; have hd1:w'.cell? ⟨wr.heap.size,1,none⟩ = some (.int .u32 p.mine):=(AA s0.2 1).trans rfl; have hd2:w'.cell? ⟨wr.heap.size,2,none⟩ = some (.int .u32 p.AB):=(AA s0.2 2).trans rfl; have hd3:w'.cell? ⟨wr.heap.size,3,none⟩ = some (.int .u32 p.yours):=(AA s0.2 3).trans rfl; have hd4:w'.cell? ⟨wr.heap.size,4,none⟩ = some (.int .u32 p.seq):=(AA s0.2 4).trans rfl; have hd5:w'.cell? ⟨wr.heap.size,5,none⟩ = some (.int .u32 p.AV):=(AA s0.2 5).trans rfl; have hd6:w'.cell? ⟨wr.heap.size,6,none⟩ = some (.int .u32 p.stamp):=(AA s0.2 6).trans rfl; have hd7:w'.cell? ⟨wr.heap.size,7,none⟩ = some (.int .u32 p.echo):=(AA s0.2 7).trans rfl; have hd8:w'.cell? ⟨wr.heap.size,8,none⟩ = some (.complex .f64 p.zr p.zi):=(AA s0.2 8).trans rfl; have hd9:w'.cell? ⟨wr.heap.size,9,none⟩ = some (.slice A2 p.body.length c2):=(AA s0.2 9).trans rfl; clear s0; go_simp; try rfl)
   refine pu 11 87 vY ?_
   refine la 12 (some 88) vZ fun K hK => ?_
   refine BH Try.func83 (by kernel_rfl) rfl #[.pointer (some ⟨gp,0,none⟩),.agg #[.int .i64 1,.int .u32 b0,.int .i64 p.kind,.int .u32 p.mine,.int .u32 p.AB,.int .u32 p.yours,.int .u32 p.seq,.int .u32 p.AV,.int .u32 p.stamp,.int .u32 p.echo,.complex .f64 p.zr p.zi,.slice A2 p.body.length c2]] (by rfl) rfl rfl (by (try simp only [List.map_toArray,List.map_cons,List.map_nil]); first | done | rfl) ?_
   have Bh:=PL.put (s:=0) (b:=(Y.sd 0).AB) (b0:=b0) (p:=p) (A2:=A2) (c2:=c2) (1:Int) (by decide) (by have:=wu.out; have:=Vh.out; omega) uU.out uZ.out uV.out uQ.out AAV.out AAW.out AAX.out AAY.out AAZ.out BB.out uY.out uS.out
   (with_reducible refine Bh.mono ?_)
   clear Bh
   rintro e w10 ⟨rfl,hst⟩
   refine ⟨_,rfl,?_⟩
   have HST:=Lib.hid hst
   clear hst hHeld
   refine hK.out _ _ ?_
   clear hK K
   refine BG (by kernel_rfl) ?_
   go_wp2_with fail
   go_roundg (n0 - (i + 1))
   case measure => have:=HM0.out; have:=wu.out; have:=Vh.out; omega
   case rel => exact ⟨i + 1,rfl,by have:=wu.out; have:=Vh.out; omega,by first | rfl | simp,HST.out⟩
  ·have hd:decide ((i:Int) < (n0:Int)) = false:=by simp; omega
   have hie:i = n0:=by have:=AAU.out; omega
   subst hie
   have hfin:=ny.out
   have AAa:Hid (CS w B gp U (BC Y 0) wr):=Lib.hid (by have hx:=wu.out; rw [← hx] at hfin; exact PL.end_ hfin)
   clear hfin hlt
   go_wp2_with fail
   obtain ⟨⟨ge1,CQ,Ho,wv1,hP,hU⟩,hk,hb⟩:=AAa.out
   have jA:wr.cell? ⟨gp,9,none⟩ = some (.pointer (some ⟨ge1 1,0,none⟩)):=(AA hP.blk 9).trans rfl
   have EU:=Lib.hid hP
   have HU1:=Lib.hid hU
   have MJ:=Lib.hid hk
   have HB1:=Lib.hid hb
   clear hP hU hk hb
   rw [rounds_succ]
   go_wp2_with (go_at_call 32; (have hc:=O0 (EU.out.e 1 (by decide))); (with_reducible refine hc.mono ?_); clear hc; rintro e wo1 ⟨o1,JP,own',rfl,hE,ho,hR,hx,hkp,hz,hb,hg⟩; (obtain ⟨A11,c11,ho1⟩:=Kd.Am hR); subst ho1; (have Pz:=Lib.hid (PL.start (s:=1) (by decide) EU.out HU1.out MJ.out HB1.out hE ho hR hx hkp hz hb hg)); (clear hE ho hR hx hkp hz hb hg))
   have AFv:=lX.out
   generalize uf:((BC Y 0).sd 1).end_.out.length = n1 at *
   have fP:=Lib.hid uf
   clear uf jA
   go_loopg [72] n1 (fun m v wr => ∃ i:Nat,m = n1 - i ∧ i ≤ n1 ∧ v = .int .i64 (i:Int) ∧ PL w B gp U ((BC Y 0).set 1 { (BC Y 0).sd 1 with end_:=Fq ((BC Y 0).sd 1).end_ }) 1 ((BC Y 0).sd 1).AB (.slice A11 n1 c11) ((BC Y 0).sd 1).end_.out i wr)
   case atStart => exact ⟨0,rfl,Nat.zero_le _,rfl,Pz.out⟩
   case round =>
    obtain ⟨i,hm,hin,rfl,hF⟩:=hrel
    have HM1:=Lib.hid hm
    have AAb:=Lib.hid hin
    have jq:=Lib.hid hF
    clear hm hin hF
    by_cases hlt:(i:Int) < (n1:Int)
    ·have hd:decide ((i:Int) < (n1:Int)) = true:=by simp [hlt]
     have hsz:=jq.out.size
     have OU:=Lib.hid hsz
     clear hsz
     obtain ⟨ge,own,lv,wv,JP,hP,hU,hx,hR,hk,hb⟩:=jq.out
     obtain ⟨gx,cs,hA1,hM,hrg,hcl,hnp⟩:=Q7 hR i (by omega)
     subst hA1
     obtain ⟨b2,hb2,P6⟩:=DY.1 hM
     subst hb2
     obtain ⟨A2,c2,hb3⟩:=Kd.Am P6
     subst hb3
     obtain ⟨Yi,ZY⟩:∃ Yi,Yi = DU ((BC Y 0).set 1 { (BC Y 0).sd 1 with end_:=Fq ((BC Y 0).sd 1).end_ }) ((1:Nat):Int) ((BC Y 0).sd 1).AB (((BC Y 0).sd 1).end_.out.take i):=⟨_,rfl⟩
     rw [← ZY] at hP
     obtain ⟨b0,hb0⟩:∃ b0,b0 = ((BC Y 0).sd 1).AB:=⟨_,rfl⟩
     have uP:(Yi.sd 1).AB = b0:=by rw [ZY,Gm,hb0]; rfl
     have lU:Yi.way.length ≤ 1024:=by rw [ZY]; exact FW _ _ _ _ lZ.out
     obtain ⟨p,hp⟩:∃ p,p = ((BC Y 0).sd 1).end_.out.getD i Oe:=⟨_,rfl⟩
     rw [← hp] at P6 hrg hcl hM
     have ug:=Lib.hid hP
     have AAc:=Lib.hid hU
     have AAd:=Lib.hid hx
     have AAe:=Lib.hid hR
     have AAf:=Lib.hid hk
     have AAg:=Lib.hid hb
     have uh:=Lib.hid P6
     have uj:=Lib.hid hrg
     have uk:=Lib.hid ZY
     have um:=Lib.hid hb0
     have uo:=Lib.hid uP
     have uq:=Lib.hid lU
     have uu:=Lib.hid hp
     have Vj:=Lib.hid hlt
     clear hP hU hx hR hk hb P6 hrg hcl hM ZY hb0 uP lU hp hnp hlt
     have hlt:i < n1:=by have:=Vj.out; omega
     have HZ1:=Lib.hid (heap_alloc_new wr (.cells #[.int .i64 0,.int .u32 0,.int .u32 0,.int .u32 0,.int .u32 0,.int .u32 0,.int .u32 0,.int .u32 0,.complex .f64 0 0,.slice none 0 0] 27))
     go_wp2_with (first | ((with_reducible refine AO (N:=75) rfl ?_); (refine wpList_load_mid rfl 27 (.tmp 74) rfl gx (i * 10) (by first | rfl | (simp; done)) (cells p (.slice A2 p.body.length c2)) _ uj.out Try.underlying27 rfl (by kernel_rfl) ?_)) | ((with_reducible refine gate_ (.store 27 (.tmp 10) (.tmp 75)) rfl ?_); (refine Ad rfl rfl 27 (.tmp 10) (.tmp 75) rfl wr.heap.size #[.int .i64 p.kind,.int .u32 p.mine,.int .u32 p.AB,.int .u32 p.yours,.int .u32 p.seq,.int .u32 p.AV,.int .u32 p.stamp,.int .u32 p.echo,.complex .f64 p.zr p.zi,.slice A2 p.body.length c2] rfl rfl 27 _ HZ1.out (by kernel_rfl) rfl (by kernel_rfl) ?_); (intro w8 hb8 RJ); (have Il:=Lib.hid hb8); (have ZZ:=Lib.hid (RJ.below ((Below.refl wr.heap.size wr).alloc (Nat.le_refl _) _) (Nat.le_refl _))); (clear hb8 RJ)))
     have hbd:=AZ ZZ.out
     have hSS:w8.drew.heap[gp]? = some (.cells (BK Yi ge lv wv) 143 (0,0)) ∧ w8.drew.heap[wr.heap.size]? = some (.cells #[.int .i64 p.kind,.int .u32 p.mine,.int .u32 p.AB,.int .u32 p.yours,.int .u32 p.seq,.int .u32 p.AV,.int .u32 p.stamp,.int .u32 p.echo,.complex .f64 p.zr p.zi,.slice A2 p.body.length c2] 27 (0,0)):=⟨(ug.out.sub hbd).blk,Il.out⟩
     clear Il ZZ
     refine BA (n:=13) (S:=fun w' => w'.heap[gp]? = some (.cells (BK Yi ge lv wv) 143 (0,0)) ∧ w'.heap[wr.heap.size]? = some (.cells #[.int .i64 p.kind,.int .u32 p.mine,.int .u32 p.AB,.int .u32 p.yours,.int .u32 p.seq,.int .u32 p.AV,.int .u32 p.stamp,.int .u32 p.echo,.complex .f64 p.zr p.zi,.slice A2 p.body.length c2] 27 (0,0))) (ds:=[12]) vW (by kernel_rfl) rfl rfl (hSS) (fun hHeld => ?_)
     generalize w8.drew = w9 at hbd hHeld ⊢
     have BB:=Lib.hid hbd
     clear hbd
     refine pu 0 76 xE ?_
     refine pu 1 77 M0V ?_
     refine pu 2 78 M0W ?_
     refine pu 3 79 M0X ?_
     refine pu 4 80 M0Z ?_
     refine pu 5 81 M10 ?_
     refine pu 6 82 M12 ?_
     refine pu 7 83 M13 ?_
     refine pu 8 84 xG ?_
     refine tk 9 85 xH hHeld ?_ (hf:=by intro w' s0; have hc1:w'.cell? ⟨gp,10,none⟩ = some (.int .u32 b0):=(AA s0.1 10).trans (by rw [← uo.out]; rfl); clear s0; go_simp; rfl)
     refine tk 10 86 vX hHeld ?_ (hf:=by intro w' s0; have CP:=Try.underlying27; have hd0:w'.cell? ⟨wr.heap.size,0,none⟩ = some (.int .i64 p.kind):=(AA s0.2 0).trans rfl; have hd1:w'.cell? ⟨wr.heap.size,1,none⟩ = some (.int .u32 p.mine):=(AA s0.2 1).trans rfl; have hd2:w'.cell? ⟨wr.heap.size,2,none⟩ = some (.int .u32 p.AB):=(AA s0.2 2).trans rfl; have hd3:w'.cell? ⟨wr.heap.size,3,none⟩ = some (.int .u32 p.yours):=(AA s0.2 3).trans rfl; have hd4:w'.cell? ⟨wr.heap.size,4,none⟩ = some (.int .u32 p.seq):=(AA s0.2 4).trans rfl; have hd5:w'.cell? ⟨wr.heap.size,5,none⟩ = some (.int .u32 p.AV):=(AA s0.2 5).trans rfl; have hd6:w'.cell? ⟨wr.heap.size,6,none⟩ = some (.int .u32 p.stamp):=(AA s0.2 6).trans rfl; have hd7:w'.cell? ⟨wr.heap.size,7,none⟩ = some (.int .u32 p.echo):=(AA s0.2 7).trans rfl; have hd8:w'.cell? ⟨wr.heap.size,8,none⟩ = some (.complex .f64 p.zr p.zi):=(AA s0.2 8).trans rfl; have hd9:w'.cell? ⟨wr.heap.size,9,none⟩ = some (.slice A2 p.body.length c2):=(AA s0.2 9).trans rfl; clear s0; go_simp; try rfl)
     refine pu 11 87 vY ?_
     refine la 12 (some 88) vZ fun K hK => ?_
     refine BH Try.func83 (by kernel_rfl) rfl #[.pointer (some ⟨gp,0,none⟩),.agg #[.int .i64 0,.int .u32 b0,.int .i64 p.kind,.int .u32 p.mine,.int .u32 p.AB,.int .u32 p.yours,.int .u32 p.seq,.int .u32 p.AV,.int .u32 p.stamp,.int .u32 p.echo,.complex .f64 p.zr p.zi,.slice A2 p.body.length c2]] (by rfl) rfl rfl (by (try simp only [List.map_toArray,List.map_cons,List.map_nil]); first | done | rfl) ?_
     have Bh:=PL.put (s:=1) (b:=((BC Y 0).sd 1).AB) (b0:=b0) (p:=p) (A2:=A2) (c2:=c2) (0:Int) (by decide) (by have:=fP.out; have:=Vj.out; omega) uk.out uu.out um.out ug.out AAc.out AAd.out AAe.out AAf.out AAg.out BB.out uq.out uh.out
     (with_reducible refine Bh.mono ?_)
     clear Bh
     rintro e w10 ⟨rfl,hst⟩
     refine ⟨_,rfl,?_⟩
     have HST:=Lib.hid hst
     clear hst hHeld
     refine hK.out _ _ ?_
     clear hK K
     refine BG (by kernel_rfl) ?_
     go_wp2_with fail
     go_roundg (n1 - (i + 1))
     case measure => have:=HM1.out; have:=fP.out; have:=Vj.out; omega
     case rel => exact ⟨i + 1,rfl,by have:=fP.out; have:=Vj.out; omega,by first | rfl | simp,HST.out⟩
    ·have hd:decide ((i:Int) < (n1:Int)) = false:=by simp; omega
     have hie:i = n1:=by have:=AAb.out; omega
     subst hie
     have hfin:=jq.out
     have AAh:Hid (CS w B gp U (BC (BC Y 0) 1) wr):=Lib.hid (by have hx:=fP.out; rw [← hx] at hfin; exact PL.end_ hfin)
     clear hfin hlt
     go_wp2_with fail
     rw [rounds_succ]
     go_wp2_with fail
     all_goals (go_ret; exact ⟨rfl,AAh.out⟩)):p:=h
theorem Z32 {p:Prop} (h:p:=by
 have hk2:w3.cell? ⟨w.heap.size,2,none⟩ = some (.int .i64 i):=(AA I4.out 2).trans rfl
 have hk3:w3.cell? ⟨w.heap.size,3,none⟩ = some (.slice Ab nb cb):=(AA I4.out 3).trans rfl
 have dP:w3.cell? ⟨gp,18,none⟩ = some (.slice Aw X.way.length cw):=(AA (H.out.sub HB3.out).blk 18).trans rfl
 have Nc:decide (kind < 6) = true:=by simp [hg1]
 have Md:decide (kind ≥ 6) = false:=by simp; omega
 exact Z1):p:=h
theorem Sj {w : World} {B gp : Nat} {ge : Nat → Nat} {own : Nat → Nat → Prop} {X Y : Pr} {lv : Nat → Value} {wv : Value} {U : Nat → Prop} (h : Dj w B gp ge own X lv wv) (kind : Int) (i : Int) (hg1 : kind < 6) (Ab : Option Addr) (nb cb : Nat) (fn : FuncId) (f : Func) (hfn : Try.prog.funcs[fn]? = some f) (hnm : (f.name == "runtime.NumGoroutine") = false) (hbs : f.body.isSome = true) (E : Int)
  (hlook:∀ (W:World) (r:Nat),W.heap[r]? = some (.map ED 8) → (Instr.lookup 146 (.map (some r)) (.int .i64 kind) true).run Try.prog W = .ok (.tuple #[.func (.func fn) #[] #[],.bool true]) W)
  (hcall:∀ w':World,Below w.heap.size w w' → Calls Try.prog fn #[.pointer (some ⟨gp,0,none⟩),.agg #[.int .i64 kind,.int .i64 0,.int .i64 i,.slice Ab nb cb]] w' fun e w'' => e = .returned (.int .i64 E) ∧ CS w' B gp U Y w'')
  (hoy:∀ s,s < 2 → (Y.sd s).end_.Ok) (hwy:Y.way.length ≤ 1024) :
  Calls Try.prog 41 #[.pointer (some ⟨gp,0,none⟩),.agg #[.int .i64 kind,.int .i64 0,.int .i64 i,.slice Ab nb cb]] w fun e w' => e = .returned (.int .i64 E) ∧ CS w B gp U (BC (BC Y 0) 1) w':=by
 have hba:Below w.heap.size w (w.alloc (.cells #[.int .i64 kind,.int .i64 0,.int .i64 i,.slice Ab nb cb] 72)):=(Below.refl _ _).alloc (Nat.le_refl _) _
 have hSS:(w.alloc (.cells #[.int .i64 kind,.int .i64 0,.int .i64 i,.slice Ab nb cb] 72)).drew.heap[w.heap.size]? = some (.cells #[.int .i64 kind,.int .i64 0,.int .i64 i,.slice Ab nb cb] 72 (0,0)):=heap_alloc_new w _
 obtain ⟨Aw,cw,_,hwv,_⟩:=h.way.reads
 subst hwv
 have EJ:=Lib.hid hSS
 have EM:=Lib.hid (AZ hba)
 have H:=Lib.hid h
 have HFN:=Lib.hid hfn
 have HNM:=Lib.hid hnm
 have HBS:=Lib.hid hbs
 have LC:=Lib.hid hlook
 have ZX:=Lib.hid hcall
 have lV:=Lib.hid (hoy 0 (by decide)).out
 have Sl:(BC Y 0).sd 1 = Y.sd 1:=by show (DU _ _ _ _).sd 1 = _; rw [Gm]; rfl
 have lX:Hid (((BC Y 0).sd 1).end_.out.length ≤ _):=Lib.hid (by rw [Sl]; exact (hoy 1 (by decide)).out)
 have lW:=Lib.hid hwy
 have lZ:Hid ((BC Y 0).way.length ≤ 1024):=Lib.hid (FW _ _ _ _ hwy)
 clear h hba hSS hfn hnm hbs hlook hcall hoy Sl hwy
 go_enter Try.func41,Try.ntmps41
 go_wp2_with fail
 have hSS:=EJ.out
 have hbd:=EM.out
 clear EJ EM
 refine BA (n:=9) (S:=fun w' => w'.heap[w.heap.size]? = some (.cells #[.int .i64 kind,.int .i64 0,.int .i64 i,.slice Ab nb cb] 72 (0,0))) (ds:=[]) Zu (by kernel_rfl) rfl rfl (hSS) (fun hHeld => ?_)
 generalize (w.alloc (.cells #[.int .i64 kind,.int .i64 0,.int .i64 i,.slice Ab nb cb] 72)).drew = w2 at hbd hHeld ⊢
 have BB:=Lib.hid hbd
 clear hbd
 refine pu 1 15 iH ?_
 refine tk 2 16 iI hHeld ?_ (hf:=by intro w' s0; have hc0:w'.cell? ⟨w.heap.size,0,none⟩ = some (.int .i64 kind):=(AA s0 0).trans rfl; clear s0; go_simp; with_reducible rfl)
 refine on 0 (some 14) aP fun K hK => ?_
 refine BH Try.func82 (by kernel_rfl) rfl #[] (by rfl) rfl rfl (by (try simp only [List.map_toArray,List.map_cons,List.map_nil]); first | done | rfl) ?_
 refine (JY w2).mono ?_
 rintro e w3 ⟨rfl,hmap,hb3⟩
 refine ⟨_,rfl,?_⟩
 have hS3:w3.heap[w.heap.size]? = some (.cells #[.int .i64 kind,.int .i64 0,.int .i64 i,.slice Ab nb cb] 72 (0,0)):=(hb3.block _ (AQ hHeld)).trans hHeld
 have OO:=Lib.hid hmap
 have HB3:=Lib.hid (BB.out.trans (hb3.mono BB.out.size))
 have I4:=Lib.hid hS3
 generalize w2.heap.size = gm at *
 clear hmap hb3 hHeld
 refine hK.out _ _ hS3 (fun hHeld => ?_)
 clear hK K hS3
 refine nm 14 ?_
 refine on 3 (some 17) aQ fun K hK => ?_
 have hlk:=LC.out w3 gm OO.out
 refine Es (v:=.tuple #[.func (.func fn) #[] #[],.bool true]) (by rfl) rfl (w1:=w3) (by first | (go_simp; done) | (go_simp; rfl)) ?_
 clear hlk
 refine hK.out _ _ hHeld (fun hHeld => ?_)
 clear hK K
 refine nm 17 ?_
 refine pu 4 13 Zv ?_
 refine pu 5 18 Zw ?_
 refine pu 6 19 Zx ?_
 refine pu 7 5 Zy ?_
 refine pu 8 6 Zz ?_
 refine BG (by kernel_rfl) ?_
 clear hHeld
 have hk0:w3.cell? ⟨w.heap.size,0,none⟩ = some (.int .i64 kind):=(AA I4.out 0).trans rfl
 have hk1:w3.cell? ⟨w.heap.size,1,none⟩ = some (.int .i64 0):=(AA I4.out 1).trans rfl
 exact Z32
theorem Sm {w : World} {B gp : Nat} {ge : Nat → Nat} {own : Nat → Nat → Prop} {X Y : Pr} {lv : Nat → Value} {wv : Value} {U : Nat → Prop} (h : Dj w B gp ge own X lv wv) (kind : Int) (i : Int) (hg1 : kind < 6) (Ab : Option Addr) (nb cb : Nat) (fn : FuncId) (f : Func) (hfn : Try.prog.funcs[fn]? = some f) (hnm : (f.name == "runtime.NumGoroutine") = false) (hbs : f.body.isSome = true) (E : Int)
  (hlook:∀ (W:World) (r:Nat),W.heap[r]? = some (.map ED 8) → (Instr.lookup 146 (.map (some r)) (.int .i64 kind) true).run Try.prog W = .ok (.tuple #[.func (.func fn) #[] #[],.bool true]) W)
  (hcall:∀ w':World,Below w.heap.size w w' → Calls Try.prog fn #[.pointer (some ⟨gp,0,none⟩),.agg #[.int .i64 kind,.int .i64 1,.int .i64 i,.slice Ab nb cb]] w' fun e w'' => e = .returned (.int .i64 E) ∧ CS w' B gp U Y w'')
  (hoy:∀ s,s < 2 → (Y.sd s).end_.Ok) (hwy:Y.way.length ≤ 1024) :
  Calls Try.prog 41 #[.pointer (some ⟨gp,0,none⟩),.agg #[.int .i64 kind,.int .i64 1,.int .i64 i,.slice Ab nb cb]] w fun e w' => e = .returned (.int .i64 E) ∧ CS w B gp U (BC (BC Y 0) 1) w':=by
 have hba:Below w.heap.size w (w.alloc (.cells #[.int .i64 kind,.int .i64 1,.int .i64 i,.slice Ab nb cb] 72)):=(Below.refl _ _).alloc (Nat.le_refl _) _
 have hSS:(w.alloc (.cells #[.int .i64 kind,.int .i64 1,.int .i64 i,.slice Ab nb cb] 72)).drew.heap[w.heap.size]? = some (.cells #[.int .i64 kind,.int .i64 1,.int .i64 i,.slice Ab nb cb] 72 (0,0)):=heap_alloc_new w _
 obtain ⟨Aw,cw,_,hwv,_⟩:=h.way.reads
 subst hwv
 have EJ:=Lib.hid hSS
 have EM:=Lib.hid (AZ hba)
 have H:=Lib.hid h
 have HFN:=Lib.hid hfn
 have HNM:=Lib.hid hnm
 have HBS:=Lib.hid hbs
 have LC:=Lib.hid hlook
 have ZX:=Lib.hid hcall
 have lV:=Lib.hid (hoy 0 (by decide)).out
 have Sl:(BC Y 0).sd 1 = Y.sd 1:=by show (DU _ _ _ _).sd 1 = _; rw [Gm]; rfl
 have lX:Hid (((BC Y 0).sd 1).end_.out.length ≤ _):=Lib.hid (by rw [Sl]; exact (hoy 1 (by decide)).out)
 have lW:=Lib.hid hwy
 have lZ:Hid ((BC Y 0).way.length ≤ 1024):=Lib.hid (FW _ _ _ _ hwy)
 clear h hba hSS hfn hnm hbs hlook hcall hoy Sl hwy
 go_enter Try.func41,Try.ntmps41
 go_wp2_with fail
 have hSS:=EJ.out
 have hbd:=EM.out
 clear EJ EM
 refine BA (n:=9) (S:=fun w' => w'.heap[w.heap.size]? = some (.cells #[.int .i64 kind,.int .i64 1,.int .i64 i,.slice Ab nb cb] 72 (0,0))) (ds:=[]) Zu (by kernel_rfl) rfl rfl (hSS) (fun hHeld => ?_)
 generalize (w.alloc (.cells #[.int .i64 kind,.int .i64 1,.int .i64 i,.slice Ab nb cb] 72)).drew = w2 at hbd hHeld ⊢
 have BB:=Lib.hid hbd
 clear hbd
 refine pu 1 15 iH ?_
 refine tk 2 16 iI hHeld ?_ (hf:=by intro w' s0; have hc0:w'.cell? ⟨w.heap.size,0,none⟩ = some (.int .i64 kind):=(AA s0 0).trans rfl; clear s0; go_simp; with_reducible rfl)
 refine on 0 (some 14) aP fun K hK => ?_
 refine BH Try.func82 (by kernel_rfl) rfl #[] (by rfl) rfl rfl (by (try simp only [List.map_toArray,List.map_cons,List.map_nil]); first | done | rfl) ?_
 refine (JY w2).mono ?_
 rintro e w3 ⟨rfl,hmap,hb3⟩
 refine ⟨_,rfl,?_⟩
 have hS3:w3.heap[w.heap.size]? = some (.cells #[.int .i64 kind,.int .i64 1,.int .i64 i,.slice Ab nb cb] 72 (0,0)):=(hb3.block _ (AQ hHeld)).trans hHeld
 have OO:=Lib.hid hmap
 have HB3:=Lib.hid (BB.out.trans (hb3.mono BB.out.size))
 have I4:=Lib.hid hS3
 generalize w2.heap.size = gm at *
 clear hmap hb3 hHeld
 refine hK.out _ _ hS3 (fun hHeld => ?_)
 clear hK K hS3
 refine nm 14 ?_
 refine on 3 (some 17) aQ fun K hK => ?_
 have hlk:=LC.out w3 gm OO.out
 refine Es (v:=.tuple #[.func (.func fn) #[] #[],.bool true]) (by rfl) rfl (w1:=w3) (by first | (go_simp; done) | (go_simp; rfl)) ?_
 clear hlk
 refine hK.out _ _ hHeld (fun hHeld => ?_)
 clear hK K
 refine nm 17 ?_
 refine pu 4 13 Zv ?_
 refine pu 5 18 Zw ?_
 refine pu 6 19 Zx ?_
 refine pu 7 5 Zy ?_
 refine pu 8 6 Zz ?_
 refine BG (by kernel_rfl) ?_
 clear hHeld
 have hk0:w3.cell? ⟨w.heap.size,0,none⟩ = some (.int .i64 kind):=(AA I4.out 0).trans rfl
 have hk1:w3.cell? ⟨w.heap.size,1,none⟩ = some (.int .i64 1):=(AA I4.out 1).trans rfl
 exact Z32
theorem lg {w : World} {B gp : Nat} {ge : Nat → Nat} {own : Nat → Nat → Prop} {X Y : Pr} {lv : Nat → Value} {wv : Value} {U : Nat → Prop} (h : Dj w B gp ge own X lv wv) (kind : Int) (side : Int) (j : Nat) (hg1 : ¬ kind < 6) (hj : j < X.way.length) (Ab : Option Addr) (nb cb : Nat) (fn : FuncId) (f : Func) (hfn : Try.prog.funcs[fn]? = some f) (hnm : (f.name == "runtime.NumGoroutine") = false) (hbs : f.body.isSome = true) (E : Int)
  (hlook:∀ (W:World) (r:Nat),W.heap[r]? = some (.map ED 8) → (Instr.lookup 146 (.map (some r)) (.int .i64 kind) true).run Try.prog W = .ok (.tuple #[.func (.func fn) #[] #[],.bool true]) W)
  (hcall:∀ w':World,Below w.heap.size w w' → Calls Try.prog fn #[.pointer (some ⟨gp,0,none⟩),.agg #[.int .i64 kind,.int .i64 side,.int .i64 (j:Int),.slice Ab nb cb]] w' fun e w'' => e = .returned (.int .i64 E) ∧ CS w' B gp U Y w'')
  (hoy:∀ s,s < 2 → (Y.sd s).end_.Ok) (hwy:Y.way.length ≤ 1024) :
  Calls Try.prog 41 #[.pointer (some ⟨gp,0,none⟩),.agg #[.int .i64 kind,.int .i64 side,.int .i64 (j:Int),.slice Ab nb cb]] w fun e w' => e = .returned (.int .i64 E) ∧ CS w B gp U (BC (BC Y 0) 1) w':=by
 have hba:Below w.heap.size w (w.alloc (.cells #[.int .i64 kind,.int .i64 side,.int .i64 (j:Int),.slice Ab nb cb] 72)):=(Below.refl _ _).alloc (Nat.le_refl _) _
 have hSS:(w.alloc (.cells #[.int .i64 kind,.int .i64 side,.int .i64 (j:Int),.slice Ab nb cb] 72)).drew.heap[w.heap.size]? = some (.cells #[.int .i64 kind,.int .i64 side,.int .i64 (j:Int),.slice Ab nb cb] 72 (0,0)):=heap_alloc_new w _
 obtain ⟨Aw,cw,_,hwv,_⟩:=h.way.reads
 subst hwv
 have EJ:=Lib.hid hSS
 have EM:=Lib.hid (AZ hba)
 have H:=Lib.hid h
 have HFN:=Lib.hid hfn
 have HNM:=Lib.hid hnm
 have HBS:=Lib.hid hbs
 have LC:=Lib.hid hlook
 have ZX:=Lib.hid hcall
 have lV:=Lib.hid (hoy 0 (by decide)).out
 have Sl:(BC Y 0).sd 1 = Y.sd 1:=by show (DU _ _ _ _).sd 1 = _; rw [Gm]; rfl
 have lX:Hid (((BC Y 0).sd 1).end_.out.length ≤ _):=Lib.hid (by rw [Sl]; exact (hoy 1 (by decide)).out)
 have lW:=Lib.hid hwy
 have lZ:Hid ((BC Y 0).way.length ≤ 1024):=Lib.hid (FW _ _ _ _ hwy)
 have HJ:=Lib.hid hj
 clear h hba hSS hfn hnm hbs hlook hcall hoy Sl hwy
 go_enter Try.func41,Try.ntmps41
 go_wp2_with fail
 have hSS:=EJ.out
 have hbd:=EM.out
 clear EJ EM
 refine BA (n:=9) (S:=fun w' => w'.heap[w.heap.size]? = some (.cells #[.int .i64 kind,.int .i64 side,.int .i64 (j:Int),.slice Ab nb cb] 72 (0,0))) (ds:=[]) Zu (by kernel_rfl) rfl rfl (hSS) (fun hHeld => ?_)
 generalize (w.alloc (.cells #[.int .i64 kind,.int .i64 side,.int .i64 (j:Int),.slice Ab nb cb] 72)).drew = w2 at hbd hHeld ⊢
 have BB:=Lib.hid hbd
 clear hbd
 refine pu 1 15 iH ?_
 refine tk 2 16 iI hHeld ?_ (hf:=by intro w' s0; have hc0:w'.cell? ⟨w.heap.size,0,none⟩ = some (.int .i64 kind):=(AA s0 0).trans rfl; clear s0; go_simp; with_reducible rfl)
 refine on 0 (some 14) aP fun K hK => ?_
 refine BH Try.func82 (by kernel_rfl) rfl #[] (by rfl) rfl rfl (by (try simp only [List.map_toArray,List.map_cons,List.map_nil]); first | done | rfl) ?_
 refine (JY w2).mono ?_
 rintro e w3 ⟨rfl,hmap,hb3⟩
 refine ⟨_,rfl,?_⟩
 have hS3:w3.heap[w.heap.size]? = some (.cells #[.int .i64 kind,.int .i64 side,.int .i64 (j:Int),.slice Ab nb cb] 72 (0,0)):=(hb3.block _ (AQ hHeld)).trans hHeld
 have OO:=Lib.hid hmap
 have HB3:=Lib.hid (BB.out.trans (hb3.mono BB.out.size))
 have I4:=Lib.hid hS3
 generalize w2.heap.size = gm at *
 clear hmap hb3 hHeld
 refine hK.out _ _ hS3 (fun hHeld => ?_)
 clear hK K hS3
 refine nm 14 ?_
 refine on 3 (some 17) aQ fun K hK => ?_
 have hlk:=LC.out w3 gm OO.out
 refine Es (v:=.tuple #[.func (.func fn) #[] #[],.bool true]) (by rfl) rfl (w1:=w3) (by first | (go_simp; done) | (go_simp; rfl)) ?_
 clear hlk
 refine hK.out _ _ hHeld (fun hHeld => ?_)
 clear hK K
 refine nm 17 ?_
 refine pu 4 13 Zv ?_
 refine pu 5 18 Zw ?_
 refine pu 6 19 Zx ?_
 refine pu 7 5 Zy ?_
 refine pu 8 6 Zz ?_
 refine BG (by kernel_rfl) ?_
 clear hHeld
 have hk0:w3.cell? ⟨w.heap.size,0,none⟩ = some (.int .i64 kind):=(AA I4.out 0).trans rfl
 have hk1:w3.cell? ⟨w.heap.size,1,none⟩ = some (.int .i64 side):=(AA I4.out 1).trans rfl
 have hk2:w3.cell? ⟨w.heap.size,2,none⟩ = some (.int .i64 (j:Int)):=(AA I4.out 2).trans rfl
 have hk3:w3.cell? ⟨w.heap.size,3,none⟩ = some (.slice Ab nb cb):=(AA I4.out 3).trans rfl
 have dP:w3.cell? ⟨gp,18,none⟩ = some (.slice Aw X.way.length cw):=(AA (H.out.sub HB3.out).blk 18).trans rfl
 have Nc:decide (kind < 6) = false:=by simp [hg1]
 have Md:decide (kind ≥ 6) = true:=by simp; omega
 have hj0:decide ((j:Int) < 0) = false:=by simp
 have hj2:=HJ.out
 have hj1:decide ((j:Int) ≥ (X.way.length:Int)) = false:=by simp; omega
 clear hj2
 exact Z1
def FD (d:Sd):Sd:={ d with AB:=d.AB + 1 }
def G7 (d:Sd):Ei:=⟨5,d.AB + 1,0,0,0,[]⟩
theorem Dj.Za {w w1:World} {B gp g:Nat} {ge:Nat → Nat} {own:Nat → Nat → Prop} {X:Pr} {lv:Nat → Value} {wv:Value} (h:Dj w B gp ge own X lv wv) {s:Nat} (hs:s < 2) {L:Lk} (hA:Lk.At w1 B (fun _ => False) (fun _ => False) g L (.slice none 0 0) (.slice none 0 0)) (hb:Below w.heap.size w w1) (hg:w.heap.size ≤ g) :
  Dj (w1.setCell ⟨gp,9 * s,none⟩ (.pointer (some ⟨g,0,none⟩))) B gp (fun t => if t = s then g else ge t) (fun j k => own j k ∨ j = 1 + s ∧ k = g) (X.set s (Ai (X.sd s) L)) lv wv:=by
 have hl:=AQ h.blk
 have hl1:=AQ hA.blk
 have hk2:Kept w1 (w1.setCell ⟨gp,9 * s,none⟩ (.pointer (some ⟨g,0,none⟩))) (fun k => k = gp):=Kept.setCell (S:=fun k => k = gp) (Kept.refl w1 _) (p:=⟨gp,9 * s,none⟩) (.inl rfl) _
 have hk:Kept w w1 (fun _ => False):=Kept.of_below hb _
 have hz2:(w1.setCell ⟨gp,9 * s,none⟩ (.pointer (some ⟨g,0,none⟩))).heap.size = w1.heap.size:=by simp [World.setCell]
 have hrow:=Ap h.blk hk (fun x => x)
 refine ⟨?_,h.low,fun i hi => ?_,fun i j k hi hj => ?_,fun i k hi => ?_,fun t ht => ?_,fun t ht => ?_,((h.way.kept hk (fun _ _ x => x)).kept hk2 (fun k hx hy => h.Hl _ (hy ▸ hx))).mono (fun k hx => .inl hx)⟩
 ·have h0:s = 0 ∨ s = 1:=by omega
  rcases h0 with rfl | rfl
  ·exact Af hrow 0 _ rfl
  ·exact Af hrow 9 _ rfl
 ·rcases hi with hi | hi
  ·exact h.Hl _ hi
  ·omega
 ·rcases hi with hi | hi <;> rcases hj with hj | hj
  ·exact h.EF _ _ _ hi hj
  ·have:=h.lt _ _ hi; omega
  ·have:=h.lt _ _ hj; omega
  ·omega
 ·rw [hz2]
  rcases hi with hi | hi
  ·have:=h.lt _ _ hi; have:=hb.size; omega
  ·omega
 ·by_cases hts:t = s
  ·subst hts
   rw [Pr.Ae]
   show Lk.End _ B _ (if t = t then g else ge t) L
   rw [if_pos rfl]
   exact ((P7 hA).kept hk2 (fun k hx hy => by omega)).mono (fun k hx => .inr ⟨rfl,hx⟩)
  ·rw [Pr.BP X hts]
   show Lk.End _ B _ (if t = s then g else ge t) _
   rw [if_neg hts]
   exact (((h.e t ht).kept hk (fun _ _ x => x)).kept hk2 (fun k hx hy => h.Hl _ (hy ▸ hx))).mono (fun k hx => .inl hx)
 ·have:((X.set s (Ai (X.sd s) L)).sd t).log = (X.sd t).log:=by
   by_cases hts:t = s
   ·subst hts; rw [Pr.Ae]; rfl
   ·rw [Pr.BP X hts]
  rw [this]
  exact Kd.BV (Kd.BJ (Kd.BJ (h.l t ht) hk (fun _ _ x => x)) hk2 (fun k hx hy => h.Hl _ (hy ▸ hx))) (fun k hx => .inl hx)
theorem Dj.Vk {w:World} {B gp:Nat} {ge:Nat → Nat} {own:Nat → Nat → Prop} {X:Pr} {lv:Nat → Value} {wv:Value} (h:Dj w B gp ge own X lv wv) {s:Nat} (hs:s < 2):Dj (w.setCell ⟨gp,9 * s + 1,none⟩ (.int .u32 ((X.sd s).AB + 1))) B gp ge own (X.set s (FD (X.sd s))) lv wv:=by
 have hk2:Kept w (w.setCell ⟨gp,9 * s + 1,none⟩ (.int .u32 ((X.sd s).AB + 1))) (fun k => k = gp):=Kept.setCell (S:=fun k => k = gp) (Kept.refl w _) (p:=⟨gp,9 * s + 1,none⟩) (.inl rfl) _
 refine h.IX ?_ hk2 (fun t => ?_) (fun t => ?_) rfl
 ·have h0:s = 0 ∨ s = 1:=by omega
  rcases h0 with rfl | rfl
  ·exact Af h.blk 1 _ rfl
  ·exact Af h.blk 10 _ rfl
 ·by_cases hts:t = s
  ·subst hts; rw [Pr.Ae]; rfl
  ·rw [Pr.BP X hts]
 ·by_cases hts:t = s
  ·subst hts; rw [Pr.Ae]; rfl
  ·rw [Pr.BP X hts]
theorem OQ {w w5 w7:World} {B gp s:Nat} {dQ:Nat → Nat} {LD:Nat → Nat → Prop} {X5:Pr} {lv:Nat → Value} {wv v1:Value} {U:Nat → Prop} {ls:List Ei} (hs:s < 2) (h5:Dj w5 B gp dQ LD X5 lv wv) (hU5:∀ i k,LD i k → newer U w k) (hk5:Kept w w5 (fun k => k = gp)) (hb5:Below B w w5)
  (hk:Kept w5 w7 (LD (3 + s))) (hw:Fb.R 67 w7 B (fun k => LD (3 + s) k ∨ w5.heap.size ≤ k) v1 ls) (hb7:Below B w5 w7):CS w B gp U (X5.set s { X5.sd s with log:=ls }) (w7.setCell ⟨gp,9 * s + 2,none⟩ v1):=by
 have hz:=hk5.1
 refine ⟨⟨_,_,_,_,h5.UI hs hk hw,fun i k hx => ?_⟩,?_,?_⟩
 ·rcases hx with hx | hx
  ·exact hU5 i k hx
  ·exact .inr (by omega)
 ·refine Kept.setCell (S:=fun k => k = gp ∨ U k) (p:=⟨gp,9 * s + 2,none⟩) ((hk5.mono (fun k hx => .inl hx)).BQ hk (fun k hx => ?_)) (.inl (.inl rfl)) _
  rcases hU5 _ k hx with hu | hu
  ·exact .inl (.inr hu)
  ·exact .inr hu
 ·exact (hb5.trans hb7).setCell (p:=⟨gp,9 * s + 2,none⟩) h5.low _
theorem Z50 {p:Prop} (h:p:=by
 have HB2:=Lib.hid hb1
 clear hb1
 go_wp2_with fail
 all_goals (go_ret; exact ⟨rfl,⟨ge,own,lv,wv,H.out.sub HB2.out,fun i k hx => .inl (HU.out i k hx)⟩,Kept.of_below HB2.out _,HB2.out.mono H.out.hB⟩)):p:=h
theorem Qb {w:World} {B gp:Nat} {ge:Nat → Nat} {own:Nat → Nat → Prop} {X:Pr} {lv:Nat → Value} {wv:Value} {U:Nat → Prop} (h:Dj w B gp ge own X lv wv) (hU:∀ i k,own i k → U k) (kind i:Int) (vb:Value) (hb0:0 ≤ (X.sd 0).AB) (hb1:(X.sd 0).AB = 4294967295) :
  Calls Try.prog 111 #[.pointer (some ⟨gp,0,none⟩),.agg #[.int .i64 kind,.int .i64 0,.int .i64 i,vb]] w fun e w' => e = .returned (.int .i64 2) ∧ CS w B gp U (X) w':=by
 have hba:Below w.heap.size w (w.alloc (.cells #[.int .i64 kind,.int .i64 0,.int .i64 i,vb] 72)):=(Below.refl _ _).alloc (Nat.le_refl _) _
 have hc1:(w.alloc (.cells #[.int .i64 kind,.int .i64 0,.int .i64 i,vb] 72)).cell? ⟨w.heap.size,1,none⟩ = some (.int .i64 0):=(AA (heap_alloc_new w _) 1).trans rfl
 have hc2:(w.alloc (.cells #[.int .i64 kind,.int .i64 0,.int .i64 i,vb] 72)).cell? ⟨gp,1,none⟩ = some (.int .u32 (X.sd 0).AB):=(AA (h.sub hba).blk 1).trans rfl
 have H:=Lib.hid h
 have HU:=Lib.hid hU
 have HB:=Lib.hid hba
 rw [hb1] at hc2
 clear h hU hba hb0 hb1
 go_enter Try.func111,Try.ntmps111
 go_wp2_with fail
 go_quiet (fail)
 rename Nat => nq1
 have hb1:=HB.out.trans (Au (Below.refl _ _) nq1:Below w.heap.size (w.alloc (.cells #[.int .i64 kind,.int .i64 0,.int .i64 i,vb] 72)) _)
 exact Z50
theorem Z53 {p:Prop} (h:p:=by
 rw [Pr.Ae,Pr.set_set] at hF
 have HF:=Lib.hid hF
 clear hF hz1 hz2 hHeld
 refine hK.out _ _ ?_
 clear hK K
 refine BG (by kernel_rfl) ?_
 go_wp2_with fail
 all_goals (go_ret; exact ⟨rfl,HF.out⟩)):p:=h
theorem Qc {w:World} {B gp:Nat} {ge:Nat → Nat} {own:Nat → Nat → Prop} {X:Pr} {lv:Nat → Value} {wv:Value} {U:Nat → Prop} (h:Dj w B gp ge own X lv wv) (hU:∀ i k,own i k → U k) (kind i:Int) (vb:Value) (hb0:0 ≤ (X.sd 0).AB) (hb1:(X.sd 0).AB < 4294967295) (hll:(X.sd 0).log.length ≤ 1000000) :
  Calls Try.prog 111 #[.pointer (some ⟨gp,0,none⟩),.agg #[.int .i64 kind,.int .i64 0,.int .i64 i,vb]] w fun e w' => e = .returned (.int .i64 0) ∧ CS w B gp U (X.set 0 { Ai (FD (X.sd 0)) (newL ((X.sd 0).AB + 1)) with log:=(X.sd 0).log ++ [G7 (X.sd 0)] }) w':=by
 have hba:Below w.heap.size w (w.alloc (.cells #[.int .i64 kind,.int .i64 0,.int .i64 i,vb] 72)):=(Below.refl _ _).alloc (Nat.le_refl _) _
 have hc1:(w.alloc (.cells #[.int .i64 kind,.int .i64 0,.int .i64 i,vb] 72)).cell? ⟨w.heap.size,1,none⟩ = some (.int .i64 0):=(AA (heap_alloc_new w _) 1).trans rfl
 have hc2:(w.alloc (.cells #[.int .i64 kind,.int .i64 0,.int .i64 i,vb] 72)).cell? ⟨gp,1,none⟩ = some (.int .u32 (X.sd 0).AB):=(AA (h.sub hba).blk 1).trans rfl
 have H:=Lib.hid h
 have HU:=Lib.hid hU
 have HB:=Lib.hid hba
 have Gv:=Lib.hid hll
 have hbx:¬ ((X.sd 0).AB = 4294967295):=by omega
 have hbq:((X.sd 0).AB == 4294967295) = false:=by simp [hbx]
 have Gf:=Lib.hid (show 0 < (X.sd 0).AB + 1 ∧ (X.sd 0).AB + 1 < 4294967296 from ⟨by omega,by omega⟩)
 clear h hU hba hll
 have hbw:(X.sd 0).AB + 1 < 4294967296:=by omega
 have HR0:=Lib.hid hbw
 go_enter Try.func111,Try.ntmps111
 go_wp2_with fail
 go_quiet (fail)
 rename Nat => nq1
 have hb1':=HB.out.trans (Au (Below.refl _ _) nq1:Below w.heap.size (w.alloc (.cells #[.int .i64 kind,.int .i64 0,.int .i64 i,vb] 72)) _)
 have HB2:=Lib.hid hb1'
 have XL:=Lib.hid (H.out.sub hb1').blk
 clear hb1'
 go_wp2_with (first | ((with_reducible refine gate_ (.store 24 (.tmp 23) (.tmp 21)) rfl ?_); (refine AU (fun wz => Dj wz B gp ge own (X.set 0 (FD (X.sd 0))) lv wv ∧ Kept w wz (fun k => k = gp) ∧ Below B w wz) rfl rfl ⟨_,(by have hz1:World.cell? ((w.alloc (.cells #[.int .i64 kind,.int .i64 0,.int .i64 i,vb] 72)).drewN nq1) ⟨gp,1,none⟩ = some _:=(AA XL.out 1).trans rfl; have hz2:=AL XL.out 1; first | (go_simp; done) | (go_simp; rfl)),(H.out.sub HB2.out).Vk (s:=0) (by decide),Kept.setCell (S:=fun k => k = gp) (p:=⟨gp,1,none⟩) (Kept.of_below HB2.out _) (.inl rfl) _,(HB2.out.mono H.out.hB).setCell (p:=⟨gp,1,none⟩) H.out.low _⟩ (fun w3 hF => ?_)); (have XR:=Lib.hid hF.1); (have Xu:=Lib.hid hF.2.1); (have HB3:=Lib.hid hF.2.2); (have hc3:w3.cell? ⟨gp,1,none⟩ = some (.int .u32 ((X.sd 0).AB + 1)):=(AA XR.out.blk 1).trans rfl); (clear hF hc1 hc2)) | (go_at_call 26; (have Bh:=PY ((X.sd 0).AB + 1) Gf.out w3 B XR.out.hB); (with_reducible refine Bh.mono ?_); clear Bh; rintro e w4 ⟨rfl,hA,hb4⟩; (have uw:=Lib.hid hA); (have HB4:=Lib.hid hb4); (have VM:=Lib.hid (XR.out.sub hb4).blk); (clear hA hb4 hc3)) | ((with_reducible refine gate_ (.store 46 (.tmp 34) (.tmp 31)) rfl ?_); (refine AU (fun wz => Dj wz B gp (fun t => if t = 0 then w3.heap.size else ge t) (fun j k => own j k ∨ j = 1 ∧ k = w3.heap.size) ((X.set 0 (FD (X.sd 0))).set 0 (Ai ((X.set 0 (FD (X.sd 0))).sd 0) (newL ((X.sd 0).AB + 1)))) lv wv ∧ Kept w wz (fun k => k = gp) ∧ Below B w wz) rfl rfl ⟨_,(by have hz1:World.cell? w4 ⟨gp,0,none⟩ = some _:=(AA VM.out 0).trans rfl; have hz2:=AL VM.out 0; first | (go_simp; done) | (go_simp; rfl)),XR.out.Za (s:=0) (by decide) uw.out HB4.out (Nat.le_refl _),Kept.setCell (S:=fun k => k = gp) (p:=⟨gp,0,none⟩) (Xu.out.below HB4.out) (.inl rfl) _,(HB3.out.trans (HB4.out.mono XR.out.hB)).setCell (p:=⟨gp,0,none⟩) H.out.low _⟩ (fun w5 hF => ?_)); (have U6:=hF.1); (rw [Pr.Ae,Pr.set_set] at U6); (have lu:=Lib.hid U6); (have HK5:=Lib.hid hF.2.1); (have FN:=Lib.hid hF.2.2); (clear hF U6)))
 obtain ⟨Al,cl,hlv⟩:=Kd.Am (H.out.l 0 (by decide))
 have Yh:=Lib.hid hlv
 clear hlv
 obtain ⟨dQ,Zb⟩:∃ g,g = (fun t => if t = 0 then w3.heap.size else ge t):=⟨_,rfl⟩
 obtain ⟨LD,U7⟩:∃ g,g = (fun j k => own j k ∨ j = 1 ∧ k = w3.heap.size):=⟨_,rfl⟩
 have U6:=lu.out
 rw [← Zb,← U7] at U6
 have XT:=Lib.hid U6
 have HU5:=Lib.hid (show ∀ i k,LD i k → newer U w k from fun i k hx => by
  rw [U7] at hx
  exact hx.elim (fun y => .inl (HU.out i k y)) (fun y => .inr (by have:=Xu.out.1; omega)))
 clear lu U6 Zb U7 VM uw HB4
 have hSS:w5.drew.heap[gp]? = some (.cells (BK (X.set 0 (Ai (FD (X.sd 0)) (newL ((X.sd 0).AB + 1)))) dQ lv wv) 143 (0,0)):=XT.out.blk
 have hbd:=AZ (Below.refl w5.heap.size w5)
 refine BA (n:=15) (S:=fun w' => w'.heap[gp]? = some (.cells (BK (X.set 0 (Ai (FD (X.sd 0)) (newL ((X.sd 0).AB + 1)))) dQ lv wv) 143 (0,0))) (ds:=[14]) Vp (by kernel_rfl) rfl rfl (hSS) (fun hHeld => ?_)
 generalize w5.drew = w6 at hbd hHeld ⊢
 have BB:=Lib.hid hbd
 clear hbd
 refine pu 0 35 Vq ?_
 refine pu 1 36 Vr ?_
 refine pu 2 37 Vs ?_
 refine pu 3 38 Vt ?_
 refine tk 4 39 Vu hHeld ?_ (hf:=by intro w' s0; have hcl:w'.cell? ⟨gp,2,none⟩ = some (.slice Al (X.sd 0).log.length cl):=(AA s0 2).trans (by rw [← Yh.out]; rfl); clear s0; go_simp; with_reducible rfl)
 refine pu 5 40 Vw ?_
 refine pu 6 41 Vx ?_
 refine pu 7 42 Vy ?_
 refine tk 8 43 Vz hHeld ?_ (hf:=by intro w' s0; have hcb:w'.cell? ⟨gp,1,none⟩ = some (.int .u32 ((X.sd 0).AB + 1)):=(AA s0 1).trans rfl; clear s0; go_simp; with_reducible rfl)
 refine pu 9 44 gZ ?_
 refine on 10 (some 45) gu fun K hK => ?_
 refine Es (v:=.slice (some ⟨w6.heap.size,0,none⟩) 1 1) (by rfl) rfl (w1:=w6.alloc (.cells #[.int .i64 5,.int .u32 ((X.sd 0).AB + 1),.int .u32 0,.int .u32 0,.int .u32 0,.slice none 0 0] 67)) ?_ ?_
 ·first | (go_simp; done) | (go_simp; rfl)
 have hb2:=(Below.refl w6.heap.size w6).alloc (Nat.le_refl _) (.cells #[.int .i64 5,.int .u32 ((X.sd 0).AB + 1),.int .u32 0,.int .u32 0,.int .u32 0,.slice none 0 0] 67)
 refine hK.out _ _ ((hb2.block gp (AQ hHeld)).trans hHeld) (fun hHeld => ?_)
 clear hK K hb2
 refine nm 45 ?_
 refine on 11 (some 46) gy fun K hK => ?_
 have hQ6:=XT.out.sub BB.out
 have GY:Fb.R 67 w6 B (LD 3) (lv 0) (X.sd 0).log:=by have hx:=hQ6.l 0 (by decide); rw [Pr.Ae] at hx; exact hx
 have uy:Fb.M w6 B (fun _ => False) (G7 (X.sd 0)) (D8 (G7 (X.sd 0)) (.slice none 0 0)):=Jp.2 ⟨_,rfl,Kd.D5 _ _ _ _ _⟩
 refine Kd.EY Fb (w0:=w5) (W:=w6) B ?hw (.tmp 39) (.tmp 45) 64 67 (.agg #[.int .i64 0,.int .u32 0,.int .u32 0,.int .u32 0,.int .u32 0,.slice none 0 0]) 48 ?ho Try.underlying64 LU ?hz ?hs0 ?hb0 (lv 0) (X.sd 0).log (G7 (X.sd 0)) (D8 (G7 (X.sd 0)) (.slice none 0 0)) (fun k => LD 3 k ∨ w5.heap.size ≤ k) (fun k => False ∧ some k ≠ (lv 0).ownBlock) ?hs ?hx (KX uy GY) ?Eg ?hf (Kd.BV GY (fun _ hk => .inl hk)) (BB.out.mono XT.out.hB) hQ6.hB ?hl ?hk
 case hw => rfl
 case ho => rfl
 case hz => rfl
 case hs0 => decide
 case hb0 => decide
 case hs => rw [Yh.out]; rfl
 case hx => rfl
 case Eg => exact fun k hk => hk.1.elim
 case hf => exact fun k hk => .inr (by have:=BB.out.size; omega)
 case hl => have:=Gv.out; omega
 intro o1 w7 hR hbl hg _
 obtain ⟨A7,c7,ho1⟩:=Kd.Am hR
 generalize ((X.sd 0).log ++ [G7 (X.sd 0)]).length = n7 at ho1
 subst ho1
 have hK7:Kept w5 w7 (LD 3):=Kept.Gi hg (Kept.of_below BB.out _) (fun k hk => .inl (GY.1 k hk))
 have l7:w7.heap[gp]? = some (.cells (BK (X.set 0 (Ai (FD (X.sd 0)) (newL ((X.sd 0).AB + 1)))) dQ lv wv) 143 (0,0)):=Ap XT.out.blk hK7 (XT.out.Hl _)
 have Iu:=Lib.hid l7
 have HR7:=Lib.hid hR
 have HK7:=Lib.hid hK7
 have l9:=Lib.hid hbl
 clear hR hbl hg hK7 hQ6 uy GY hHeld
 refine hK.out _ _ l7 (fun hHeld => ?_)
 clear hK K l7
 refine nm 46 ?_
 refine pu 12 47 Ql ?_
 refine pu 13 48 XW ?_
 refine la 14 none XX fun K hK => ?_
 have hz1:w7.cell? ⟨gp,2,none⟩ = some _:=(AA Iu.out 2).trans rfl
 have hz2:=AL Iu.out 2
 refine CG (fun wz => CS w B gp U ((X.set 0 (Ai (FD (X.sd 0)) (newL ((X.sd 0).AB + 1)))).set 0 { (X.set 0 (Ai (FD (X.sd 0)) (newL ((X.sd 0).AB + 1)))).sd 0 with log:=(X.sd 0).log ++ [G7 (X.sd 0)] }) wz) (by rfl) rfl ⟨_,by first | (go_simp; done) | (go_simp; rfl),OQ (s:=0) (by decide) XT.out HU5.out HK5.out FN.out HK7.out HR7.out l9.out⟩ (fun w8 hF => ?_)
 exact Z53
theorem Qd {w:World} {B gp:Nat} {ge:Nat → Nat} {own:Nat → Nat → Prop} {X:Pr} {lv:Nat → Value} {wv:Value} {U:Nat → Prop} (h:Dj w B gp ge own X lv wv) (hU:∀ i k,own i k → U k) (kind i:Int) (vb:Value) (hb0:0 ≤ (X.sd 1).AB) (hb1:(X.sd 1).AB = 4294967295) :
  Calls Try.prog 111 #[.pointer (some ⟨gp,0,none⟩),.agg #[.int .i64 kind,.int .i64 1,.int .i64 i,vb]] w fun e w' => e = .returned (.int .i64 2) ∧ CS w B gp U (X) w':=by
 have hba:Below w.heap.size w (w.alloc (.cells #[.int .i64 kind,.int .i64 1,.int .i64 i,vb] 72)):=(Below.refl _ _).alloc (Nat.le_refl _) _
 have hc1:(w.alloc (.cells #[.int .i64 kind,.int .i64 1,.int .i64 i,vb] 72)).cell? ⟨w.heap.size,1,none⟩ = some (.int .i64 1):=(AA (heap_alloc_new w _) 1).trans rfl
 have hc2:(w.alloc (.cells #[.int .i64 kind,.int .i64 1,.int .i64 i,vb] 72)).cell? ⟨gp,10,none⟩ = some (.int .u32 (X.sd 1).AB):=(AA (h.sub hba).blk 10).trans rfl
 have H:=Lib.hid h
 have HU:=Lib.hid hU
 have HB:=Lib.hid hba
 rw [hb1] at hc2
 clear h hU hba hb0 hb1
 go_enter Try.func111,Try.ntmps111
 go_wp2_with fail
 go_quiet (fail)
 rename Nat => nq1
 have hb1:=HB.out.trans (Au (Below.refl _ _) nq1:Below w.heap.size (w.alloc (.cells #[.int .i64 kind,.int .i64 1,.int .i64 i,vb] 72)) _)
 exact Z50
theorem Qe {w:World} {B gp:Nat} {ge:Nat → Nat} {own:Nat → Nat → Prop} {X:Pr} {lv:Nat → Value} {wv:Value} {U:Nat → Prop} (h:Dj w B gp ge own X lv wv) (hU:∀ i k,own i k → U k) (kind i:Int) (vb:Value) (hb0:0 ≤ (X.sd 1).AB) (hb1:(X.sd 1).AB < 4294967295) (hll:(X.sd 1).log.length ≤ 1000000) :
  Calls Try.prog 111 #[.pointer (some ⟨gp,0,none⟩),.agg #[.int .i64 kind,.int .i64 1,.int .i64 i,vb]] w fun e w' => e = .returned (.int .i64 0) ∧ CS w B gp U (X.set 1 { Ai (FD (X.sd 1)) (newL ((X.sd 1).AB + 1)) with log:=(X.sd 1).log ++ [G7 (X.sd 1)] }) w':=by
 have hba:Below w.heap.size w (w.alloc (.cells #[.int .i64 kind,.int .i64 1,.int .i64 i,vb] 72)):=(Below.refl _ _).alloc (Nat.le_refl _) _
 have hc1:(w.alloc (.cells #[.int .i64 kind,.int .i64 1,.int .i64 i,vb] 72)).cell? ⟨w.heap.size,1,none⟩ = some (.int .i64 1):=(AA (heap_alloc_new w _) 1).trans rfl
 have hc2:(w.alloc (.cells #[.int .i64 kind,.int .i64 1,.int .i64 i,vb] 72)).cell? ⟨gp,10,none⟩ = some (.int .u32 (X.sd 1).AB):=(AA (h.sub hba).blk 10).trans rfl
 have H:=Lib.hid h
 have HU:=Lib.hid hU
 have HB:=Lib.hid hba
 have Gv:=Lib.hid hll
 have hbx:¬ ((X.sd 1).AB = 4294967295):=by omega
 have hbq:((X.sd 1).AB == 4294967295) = false:=by simp [hbx]
 have Gf:=Lib.hid (show 0 < (X.sd 1).AB + 1 ∧ (X.sd 1).AB + 1 < 4294967296 from ⟨by omega,by omega⟩)
 clear h hU hba hll
 have hbw:(X.sd 1).AB + 1 < 4294967296:=by omega
 have HR0:=Lib.hid hbw
 go_enter Try.func111,Try.ntmps111
 go_wp2_with fail
 go_quiet (fail)
 rename Nat => nq1
 have hb1':=HB.out.trans (Au (Below.refl _ _) nq1:Below w.heap.size (w.alloc (.cells #[.int .i64 kind,.int .i64 1,.int .i64 i,vb] 72)) _)
 have HB2:=Lib.hid hb1'
 have XL:=Lib.hid (H.out.sub hb1').blk
 clear hb1'
 go_wp2_with (first | ((with_reducible refine gate_ (.store 24 (.tmp 23) (.tmp 21)) rfl ?_); (refine AU (fun wz => Dj wz B gp ge own (X.set 1 (FD (X.sd 1))) lv wv ∧ Kept w wz (fun k => k = gp) ∧ Below B w wz) rfl rfl ⟨_,(by have hz1:World.cell? ((w.alloc (.cells #[.int .i64 kind,.int .i64 1,.int .i64 i,vb] 72)).drewN nq1) ⟨gp,10,none⟩ = some _:=(AA XL.out 10).trans rfl; have hz2:=AL XL.out 10; first | (go_simp; done) | (go_simp; rfl)),(H.out.sub HB2.out).Vk (s:=1) (by decide),Kept.setCell (S:=fun k => k = gp) (p:=⟨gp,10,none⟩) (Kept.of_below HB2.out _) (.inl rfl) _,(HB2.out.mono H.out.hB).setCell (p:=⟨gp,10,none⟩) H.out.low _⟩ (fun w3 hF => ?_)); (have XR:=Lib.hid hF.1); (have Xu:=Lib.hid hF.2.1); (have HB3:=Lib.hid hF.2.2); (have hc3:w3.cell? ⟨gp,10,none⟩ = some (.int .u32 ((X.sd 1).AB + 1)):=(AA XR.out.blk 10).trans rfl); (clear hF hc1 hc2)) | (go_at_call 26; (have Bh:=PY ((X.sd 1).AB + 1) Gf.out w3 B XR.out.hB); (with_reducible refine Bh.mono ?_); clear Bh; rintro e w4 ⟨rfl,hA,hb4⟩; (have uw:=Lib.hid hA); (have HB4:=Lib.hid hb4); (have VM:=Lib.hid (XR.out.sub hb4).blk); (clear hA hb4 hc3)) | ((with_reducible refine gate_ (.store 46 (.tmp 34) (.tmp 31)) rfl ?_); (refine AU (fun wz => Dj wz B gp (fun t => if t = 1 then w3.heap.size else ge t) (fun j k => own j k ∨ j = 2 ∧ k = w3.heap.size) ((X.set 1 (FD (X.sd 1))).set 1 (Ai ((X.set 1 (FD (X.sd 1))).sd 1) (newL ((X.sd 1).AB + 1)))) lv wv ∧ Kept w wz (fun k => k = gp) ∧ Below B w wz) rfl rfl ⟨_,(by have hz1:World.cell? w4 ⟨gp,9,none⟩ = some _:=(AA VM.out 9).trans rfl; have hz2:=AL VM.out 9; first | (go_simp; done) | (go_simp; rfl)),XR.out.Za (s:=1) (by decide) uw.out HB4.out (Nat.le_refl _),Kept.setCell (S:=fun k => k = gp) (p:=⟨gp,9,none⟩) (Xu.out.below HB4.out) (.inl rfl) _,(HB3.out.trans (HB4.out.mono XR.out.hB)).setCell (p:=⟨gp,9,none⟩) H.out.low _⟩ (fun w5 hF => ?_)); (have U6:=hF.1); (rw [Pr.Ae,Pr.set_set] at U6); (have lu:=Lib.hid U6); (have HK5:=Lib.hid hF.2.1); (have FN:=Lib.hid hF.2.2); (clear hF U6)))
 obtain ⟨Al,cl,hlv⟩:=Kd.Am (H.out.l 1 (by decide))
 have Yh:=Lib.hid hlv
 clear hlv
 obtain ⟨dQ,Zb⟩:∃ g,g = (fun t => if t = 1 then w3.heap.size else ge t):=⟨_,rfl⟩
 obtain ⟨LD,U7⟩:∃ g,g = (fun j k => own j k ∨ j = 2 ∧ k = w3.heap.size):=⟨_,rfl⟩
 have U6:=lu.out
 rw [← Zb,← U7] at U6
 have XT:=Lib.hid U6
 have HU5:=Lib.hid (show ∀ i k,LD i k → newer U w k from fun i k hx => by
  rw [U7] at hx
  exact hx.elim (fun y => .inl (HU.out i k y)) (fun y => .inr (by have:=Xu.out.1; omega)))
 clear lu U6 Zb U7 VM uw HB4
 have hSS:w5.drew.heap[gp]? = some (.cells (BK (X.set 1 (Ai (FD (X.sd 1)) (newL ((X.sd 1).AB + 1)))) dQ lv wv) 143 (0,0)):=XT.out.blk
 have hbd:=AZ (Below.refl w5.heap.size w5)
 refine BA (n:=15) (S:=fun w' => w'.heap[gp]? = some (.cells (BK (X.set 1 (Ai (FD (X.sd 1)) (newL ((X.sd 1).AB + 1)))) dQ lv wv) 143 (0,0))) (ds:=[14]) Vp (by kernel_rfl) rfl rfl (hSS) (fun hHeld => ?_)
 generalize w5.drew = w6 at hbd hHeld ⊢
 have BB:=Lib.hid hbd
 clear hbd
 refine pu 0 35 Vq ?_
 refine pu 1 36 Vr ?_
 refine pu 2 37 Vs ?_
 refine pu 3 38 Vt ?_
 refine tk 4 39 Vu hHeld ?_ (hf:=by intro w' s0; have hcl:w'.cell? ⟨gp,11,none⟩ = some (.slice Al (X.sd 1).log.length cl):=(AA s0 11).trans (by rw [← Yh.out]; rfl); clear s0; go_simp; with_reducible rfl)
 refine pu 5 40 Vw ?_
 refine pu 6 41 Vx ?_
 refine pu 7 42 Vy ?_
 refine tk 8 43 Vz hHeld ?_ (hf:=by intro w' s0; have hcb:w'.cell? ⟨gp,10,none⟩ = some (.int .u32 ((X.sd 1).AB + 1)):=(AA s0 10).trans rfl; clear s0; go_simp; with_reducible rfl)
 refine pu 9 44 gZ ?_
 refine on 10 (some 45) gu fun K hK => ?_
 refine Es (v:=.slice (some ⟨w6.heap.size,0,none⟩) 1 1) (by rfl) rfl (w1:=w6.alloc (.cells #[.int .i64 5,.int .u32 ((X.sd 1).AB + 1),.int .u32 0,.int .u32 0,.int .u32 0,.slice none 0 0] 67)) ?_ ?_
 ·first | (go_simp; done) | (go_simp; rfl)
 have hb2:=(Below.refl w6.heap.size w6).alloc (Nat.le_refl _) (.cells #[.int .i64 5,.int .u32 ((X.sd 1).AB + 1),.int .u32 0,.int .u32 0,.int .u32 0,.slice none 0 0] 67)
 refine hK.out _ _ ((hb2.block gp (AQ hHeld)).trans hHeld) (fun hHeld => ?_)
 clear hK K hb2
 refine nm 45 ?_
 refine on 11 (some 46) gy fun K hK => ?_
 have hQ6:=XT.out.sub BB.out
 have GY:Fb.R 67 w6 B (LD 4) (lv 1) (X.sd 1).log:=by have hx:=hQ6.l 1 (by decide); rw [Pr.Ae] at hx; exact hx
 have uy:Fb.M w6 B (fun _ => False) (G7 (X.sd 1)) (D8 (G7 (X.sd 1)) (.slice none 0 0)):=Jp.2 ⟨_,rfl,Kd.D5 _ _ _ _ _⟩
 refine Kd.EY Fb (w0:=w5) (W:=w6) B ?hw (.tmp 39) (.tmp 45) 64 67 (.agg #[.int .i64 0,.int .u32 0,.int .u32 0,.int .u32 0,.int .u32 0,.slice none 0 0]) 48 ?ho Try.underlying64 LU ?hz ?hs0 ?hb0 (lv 1) (X.sd 1).log (G7 (X.sd 1)) (D8 (G7 (X.sd 1)) (.slice none 0 0)) (fun k => LD 4 k ∨ w5.heap.size ≤ k) (fun k => False ∧ some k ≠ (lv 1).ownBlock) ?hs ?hx (KX uy GY) ?Eg ?hf (Kd.BV GY (fun _ hk => .inl hk)) (BB.out.mono XT.out.hB) hQ6.hB ?hl ?hk
 case hw => rfl
 case ho => rfl
 case hz => rfl
 case hs0 => decide
 case hb0 => decide
 case hs => rw [Yh.out]; rfl
 case hx => rfl
 case Eg => exact fun k hk => hk.1.elim
 case hf => exact fun k hk => .inr (by have:=BB.out.size; omega)
 case hl => have:=Gv.out; omega
 intro o1 w7 hR hbl hg _
 obtain ⟨A7,c7,ho1⟩:=Kd.Am hR
 generalize ((X.sd 1).log ++ [G7 (X.sd 1)]).length = n7 at ho1
 subst ho1
 have hK7:Kept w5 w7 (LD 4):=Kept.Gi hg (Kept.of_below BB.out _) (fun k hk => .inl (GY.1 k hk))
 have l7:w7.heap[gp]? = some (.cells (BK (X.set 1 (Ai (FD (X.sd 1)) (newL ((X.sd 1).AB + 1)))) dQ lv wv) 143 (0,0)):=Ap XT.out.blk hK7 (XT.out.Hl _)
 have Iu:=Lib.hid l7
 have HR7:=Lib.hid hR
 have HK7:=Lib.hid hK7
 have l9:=Lib.hid hbl
 clear hR hbl hg hK7 hQ6 uy GY hHeld
 refine hK.out _ _ l7 (fun hHeld => ?_)
 clear hK K l7
 refine nm 46 ?_
 refine pu 12 47 Ql ?_
 refine pu 13 48 XW ?_
 refine la 14 none XX fun K hK => ?_
 have hz1:w7.cell? ⟨gp,11,none⟩ = some _:=(AA Iu.out 11).trans rfl
 have hz2:=AL Iu.out 11
 refine CG (fun wz => CS w B gp U ((X.set 1 (Ai (FD (X.sd 1)) (newL ((X.sd 1).AB + 1)))).set 1 { (X.set 1 (Ai (FD (X.sd 1)) (newL ((X.sd 1).AB + 1)))).sd 1 with log:=(X.sd 1).log ++ [G7 (X.sd 1)] }) wz) (by rfl) rfl ⟨_,by first | (go_simp; done) | (go_simp; rfl),OQ (s:=1) (by decide) XT.out HU5.out HK5.out FN.out HK7.out HR7.out l9.out⟩ (fun w8 hF => ?_)
 exact Z53
end Go.Proofs.Ytnkkgofpifhoeaa.Pr
end
