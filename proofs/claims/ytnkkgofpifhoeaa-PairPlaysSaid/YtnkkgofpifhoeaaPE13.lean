/- What the laws of a pair are proved with: links and pairs in memory, what their methods do, what a pair keeps to (part 13). -/
import Derived.Test.YtnkkgofpifhoeaaPE12
set_option linter.unusedSimpArgs false
set_option linter.unusedVariables false
set_option maxRecDepth 100000
set_option maxHeartbeats 16000000
section
namespace Go.Proofs.Ytnkkgofpifhoeaa.Rf
open Go.Proofs.Ytnkkgofpifhoeaa.Pk Go.RowKit Go.Proofs.Ytnkkgofpifhoeaa.Base Go.Proofs.Ytnkkgofpifhoeaa.Steps Go.Proofs.Ytnkkgofpifhoeaa.Lk Go.Proofs.YtnkkgofpifhoeaaW.PrintWords Go.Proofs.YtnkkgofpifhoeaaW.PrintLast
theorem Z0 {p:Prop} (h:p:=by
 all_goals (
  go_enter Try.func119,Try.ntmps119
  go_wp2_with (first | (go_at_call 63; (have F2:=Fm.four w #[.int .u32 L.own,.int .i64 L.phase,.int .u32 L.token,.int .u32 L.AB,.int .u32 L.yours,.bool L.known,.slice Aq L.queue.length cq,.int .i64 L.sent,.int .u32 nx,.int .u32 L.expected,.int .i64 L.idle,.slice Ao L.out.length co] #[.int .i64 p.kind,.int .u32 p.mine,.int .u32 p.AB,.int .u32 p.yours,.int .u32 p.seq,.int .u32 p.AV,.int .u32 p.stamp,.int .u32 p.echo,.complex .f64 p.zr p.zi,.slice Ab p.body.length cb] #[.int .u32 0,.int .i64 0,.int .u32 0,.int .u32 0,.int .u32 0,.bool false,.slice none 0 0,.int .i64 0,.int .u32 0,.int .u32 0,.int .i64 0,.slice none 0 0] #[.bool false,.bool false,.bool false,.slice none 0 0] 78 27 78 194); (obtain ⟨w0,hw0⟩:∃ w0,w0 = ((((w.alloc (.cells #[.int .u32 L.own,.int .i64 L.phase,.int .u32 L.token,.int .u32 L.AB,.int .u32 L.yours,.bool L.known,.slice Aq L.queue.length cq,.int .i64 L.sent,.int .u32 nx,.int .u32 L.expected,.int .i64 L.idle,.slice Ao L.out.length co] 78)).alloc (.cells #[.int .i64 p.kind,.int .u32 p.mine,.int .u32 p.AB,.int .u32 p.yours,.int .u32 p.seq,.int .u32 p.AV,.int .u32 p.stamp,.int .u32 p.echo,.complex .f64 p.zr p.zi,.slice Ab p.body.length cb] 27)).alloc (.cells #[.int .u32 0,.int .i64 0,.int .u32 0,.int .u32 0,.int .u32 0,.bool false,.slice none 0 0,.int .i64 0,.int .u32 0,.int .u32 0,.int .i64 0,.slice none 0 0] 78)).alloc (.cells #[.bool false,.bool false,.bool false,.slice none 0 0] 194)):=⟨_,rfl⟩); (rw [← hw0] at F2 ⊢); (have E2:=Lib.hid ((HE.out.up F2.up).below F2.bw)); (clear hw0); (have F:=Lib.hid F2); (clear F2); (have E:=E2); (clear E2); (refine Go.Calls.mono (OD _ _ _ _ _ _ _ _ _ _ _ _ _ w0 HR.out.1 HR.out.2.1 HR.out.2.2.1 HR.out.2.2.2.1 HR.out.2.2.2.2.1 HR.out.2.2.2.2.2) ?_); (intro e w1 hq); (obtain ⟨he,hb2⟩:=hq); (rw [HC.out] at he); (subst he); (have BM:=E.out.below hb2); (have F2:=Lib.hid (F.out.below hb2)); (have E2:=Lib.hid BM); (clear hb2 BM); (clear F E); (have F:=F2); (have E:=E2); (clear F2 E2); (have Cb:=F.out.CO 0 rfl rfl); (have hcP:=F.out.CO 1 rfl rfl)) | (refine F.out.ld 0 rfl 78 (.tmp 3) rfl rfl rfl rfl Try.underlying78 rfl (by kernel_rfl) ?_) | (refine F.out.ld 1 rfl 27 (.tmp 5) rfl rfl rfl rfl Try.underlying27 rfl (by kernel_rfl) ?_) | (go_at_call 132; (refine Go.Calls.mono (UM _ L nx Aq L.queue.length cq Ao L.out.length co p Ab p.body.length cb) ?_); (intro e w1 hq); (obtain ⟨he,hb2⟩:=hq); (rw [HM.out] at he); (subst he); (have BM:=E.out.below hb2); (clear Cb hcP); (have F2:=Lib.hid (F.out.below hb2)); (have E2:=Lib.hid BM); (clear hb2 BM); (clear F E); (have F:=F2); (have E:=E2); (clear F2 E2); (have Cb:=F.out.CO 0 rfl rfl); (have hcP:=F.out.CO 1 rfl rfl)) | ((with_reducible refine AO (N:=88) rfl ?_); (clear Cb hcP); (have F2:=Lib.hid (F.out.add rfl #[.bool true,.bool false,.bool false,.slice none 0 0] 194)); (have FI:Below w1.heap.size w1 (w1.alloc (.cells #[.bool true,.bool false,.bool false,.slice none 0 0] 194)):=UL w1 _); (have E2:=Lib.hid (EBx HXE.out ((E.out.up (Fm.Dn (t:=194))).below FI))); (clear FI); (obtain ⟨w2,hw2⟩:∃ w2,w2 = w1.alloc (.cells #[.bool true,.bool false,.bool false,.slice none 0 0] 194):=⟨_,rfl⟩); (rw [← hw2] at F2 E2 ⊢); (clear hw2); (clear F E); (have F:=F2); (have E:=E2); (clear F2 E2); (have Cb:=F.out.CO 0 rfl rfl); (have hcP:=F.out.CO 1 rfl rfl)) | ((with_reducible refine AO (N:=102) rfl ?_); (have FA:=F); (have EA:=E); (have hSA:=F.out.slt HS.out); (clear Cb hcP); (refine Kd.Iy (Kd.int .u8) (w0:=W2) (W:=W2) W2.heap.size 5 rfl (N:=102) rfl (xs:=([]:List Int)) (inner:=[]) (ok:=fun _ => True) (CY:=fun _ => False) (by first | (go_simp; done) | (go_simp; rfl)) (CV.none _ _) (fun _ hk => False.elim hk) trivial (Below.refl _ _) (Nat.le_refl _) (by decide) ?_); (intro v3 w3 FT hB3 _ _); (have HSA:=Lib.hid hSA); (clear hSA); (have HR3:=Lib.hid FT); (have HB3:=Lib.hid hB3); (have F2:=Lib.hid (F.out.below hB3)); (have E2:=Lib.hid (E.out.below hB3)); (clear FT hB3); (clear F E); (have F:=F2); (have E:=E2); (clear F2 E2); (have Cb:=F.out.CO 0 rfl rfl); (have hcP:=F.out.CO 1 rfl rfl)) | ((with_reducible refine AO (N:=105) rfl ?_); (clear Cb hcP); (refine Kd.Ew (h1:=fun _ => rfl) (Value.int .u8) 0 (w0:=W2) (W:=w3) W2.heap.size rfl (.tmp 102) (.tmp 104) 22 5 (.int .u8 0) 1 rfl Try.underlying22 LZ rfl (by decide) v3 [] p.body Ab p.body.length cb (fun _ => True) rfl rfl (fun _ _ => trivial) HR3.out (BB.out.below F.out.bw).1 HB3.out HB3.out.size (by have:=VP.out; simp only [List.length_nil]; omega) ?_); (intro v4 w4 Ji hB4 _ _); (obtain ⟨A4,c4,hv4⟩:=Kd.Am Ji); (rw [List.nil_append] at Ji hv4); (subst hv4); (have hbt:=QI HSA.out Ji); (have F2:=Lib.hid (FA.out.below hB4)); (have E2:=Lib.hid (EB.mk (EA.out.e.below hB4) hbt.1 hbt.2.2)); (clear Ji hB4 hbt HR3 HB3 FA EA HSA); (clear F E); (have F:=F2); (have E:=E2); (clear F2 E2); (have Cb:=F.out.CO 0 rfl rfl); (have hcP:=F.out.CO 1 rfl rfl)) | ((with_reducible refine gate_ (.store 24 (.tmp 101) (.tmp 100)) rfl ?_); (clear Cb hcP); (refine AU (fun wz => Fm w wz _ _ ∧ Steps.At _ _ wz) rfl rfl ⟨_,(by have hz0:=F.out.get 0 rfl rfl; have hz1:=AA hz0 9; have hz2:=AL hz0 9; simp only [List.getElem?_toArray,List.getElem?_cons_succ,List.getElem?_cons_zero] at hz1; first | (go_simp; done) | (go_simp; rfl)),F.out.EP 0 rfl rfl 9 _,Steps.At.set (Steps.At.refl _ _) _ _⟩ (fun W2 hF => ?_)); (have F2:=Lib.hid hF.1); (have E2:=Lib.hid (E.out.keep (AP hF.2 (AX 0 rfl)))); (clear hF); (clear F E); (have F:=F2); (have E:=E2); (clear F2 E2); (have Cb:=F.out.CO 0 rfl rfl); (have hcP:=F.out.CO 1 rfl rfl)) | ((with_reducible refine gate_ (.store 22 (.tmp 106) (.tmp 105)) rfl ?_); (clear Cb hcP); (refine AU (fun wz => Fm w wz _ _ ∧ Steps.At _ _ wz) rfl rfl ⟨_,(by have hz0:=F.out.get 4 rfl rfl; have hz1:=AA hz0 3; have hz2:=AL hz0 3; simp only [List.getElem?_toArray,List.getElem?_cons_succ,List.getElem?_cons_zero] at hz1; first | (go_simp; done) | (go_simp; rfl)),F.out.EP 4 rfl rfl 3 _,Steps.At.set (Steps.At.refl _ _) _ _⟩ (fun W2 hF => ?_)); (have F2:=Lib.hid hF.1); (have E2:=Lib.hid (E.out.keep (AP hF.2 (AX 4 rfl)))); (clear hF); (clear F E); (have F:=F2); (have E:=E2); (clear F2 E2); (have Cb:=F.out.CO 0 rfl rfl); (have hcP:=F.out.CO 1 rfl rfl)))
  clear Cb hcP
  have F3:=Lib.hid (F.out.below (AZ (Below.refl _ _)))
  have E3:=Lib.hid (E.out.below (AZ (Below.refl _ _)))
  clear F E
  refine FX (n:=6) (ds:=[]) F3.out yC (by kernel_rfl) rfl rfl (fun hHeld => ?_)
  refine tk 0 107 yD hHeld ?_ (hf:=by intro w' hF; refine DX 78 (.tmp 3) ?_ _ ?_ 78 _ (0,0) _ (hF.get 0 rfl rfl) Try.underlying78 rfl (by kernel_rfl) <;> rfl)
  refine pu 2 109 M2U ?_
  refine tk 3 110 M3K hHeld ?_ (hf:=by intro w' hF; have hcP:=hF.CO 1 rfl rfl; clear hF; go_simp; with_reducible rfl)
  refine on 1 (some 108) yE fun K hK => ?_
  refine BH Try.func117 (by kernel_rfl) rfl #[_] (by rfl) rfl rfl (by (try simp only [List.map_toArray,List.map_cons,List.map_nil]); first | done | rfl) ?_
  refine (show Calls Try.prog 117 _ _ _ from Ya _ kW.out (E3.out.e.nx HP.out) Aq L.queue.length cq rfl Ao L.out.length co).mono ?_
  rintro e w' ⟨rfl,hb5⟩
  refine ⟨_,rfl,?_⟩
  have F4:=Lib.hid (hHeld.below hb5)
  have E4:=Lib.hid (E3.out.below hb5)
  clear hb5 hHeld E3
  refine hK.out _ _ (F4.out) (fun hHeld => ?_)
  clear hK K
  refine nm 108 ?_
  refine on 4 (some 111) yF fun K hK => ?_
  refine BH Try.func133 (by kernel_rfl) rfl #[_,_] (by rfl) rfl rfl (by (try simp only [List.map_toArray,List.map_cons,List.map_nil]); first | done | rfl) ?_
  refine (show Calls Try.prog 133 _ _ _ from bz _ L.base p.AV HBB.out HAB.out HKK.out).mono ?_
  rintro e w' ⟨rfl,rfl⟩
  refine ⟨_,rfl,?_⟩
  refine hK.out _ _ (F4.out) (fun hHeld => ?_)
  clear hK K
  refine nm 111 ?_
  refine pu 5 13 yI ?_
  refine BG (by kernel_rfl) ?_
  have F:=F4
  have E:=E4
  clear F4 E4 hHeld
  have Cb:=F.out.CO 0 rfl rfl
  have hcP:=F.out.CO 1 rfl rfl
  have zu:=zx.out
  clear zx
  rcases zu with ⟨hg1,tN⟩ | ⟨hg1,hg2,tN⟩ | ⟨hg1,hg2,Q3,tN⟩
  ·skip
   go_wp2_with (first | ((with_reducible refine AO (N:=156) rfl ?_); (refine F.out.ld 0 rfl 78 (.tmp 3) rfl rfl rfl rfl Try.underlying78 rfl (by kernel_rfl) ?_)) | (go_at_call 130; (clear Cb hcP); (have hz:=cO (F.out.slt HS.out) E.out.e); (with_reducible refine Go.Calls.mono hz ?_); (clear hz); (intro e w1 hq); (obtain ⟨⟨v,he,IW⟩,hb2⟩:=hq); (obtain ⟨Ed,A7,c7,A8,c8,hv,BM⟩:=IW); (subst hv); (subst he); (have F2:=Lib.hid (F.out.below hb2)); (have E2:=Lib.hid (EB.mk BM (E.out.b.below hb2) E.out.c)); (clear hb2 BM); (clear F E); (have F:=F2); (have E:=E2); (clear F2 E2); (have Cb:=F.out.CO 0 rfl rfl); (have hcP:=F.out.CO 1 rfl rfl)) | ((with_reducible refine gate_ (.store 78 (.tmp 3) (.tmp 166)) rfl ?_); ((refine F.out.st 0 rfl rfl 78 (.tmp 3) _ rfl rfl rfl rfl rfl (by kernel_rfl) rfl (by kernel_rfl) ?_); (clear Cb hcP); (intro W2 hF hA); (have F2:=Lib.hid hF); (have E2:=Lib.hid (E.out.keep (AP hA (AX 0 rfl)))); (clear hF hA); (clear F E); (have F:=F2); (have E:=E2); (clear F2 E2); (have Cb:=F.out.CO 0 rfl rfl); (have hcP:=F.out.CO 1 rfl rfl))))
   have Le:=Lib.hid (Le.out.trans (by rw [tN.out]))
   clear Cb hcP
   have F3:=Lib.hid (F.out.below (AZ (Below.refl _ _)))
   have E3:=Lib.hid (E.out.below (AZ (Below.refl _ _)))
   clear F E
   refine BA (n:=5) (S:=SE w _ _ #[.bool false,.bool false,.bool false,.slice none 0 0] _) (ds:=[3]) nG (by kernel_rfl) rfl rfl ⟨_,rfl,⟨_,rfl,rfl⟩,rfl,rfl,F3.out⟩ (fun hHeld => ?_)
   refine tk 0 167 nH hHeld ?_ (hf:=by rintro w' ⟨SB,h0,h2,h3,h4,hF⟩; refine DX 78 (.tmp 3) ?_ _ ?_ 78 _ (0,0) _ (hF.get 0 rfl h0) Try.underlying78 rfl (by kernel_rfl) <;> rfl)
   refine tk 1 168 M11 hHeld ?_ (hf:=by rintro w' ⟨SB,h0,h2,h3,h4,hF⟩; refine DX 194 (.tmp 12) ?_ _ ?_ 194 _ (0,0) _ (hF.get 4 rfl h4) Try.underlying194 rfl (by kernel_rfl) <;> rfl)
   have ZH:=Lib.hid hHeld
   obtain ⟨SB,h0,⟨c2,hc2,hs2⟩,h3,h4,hF2⟩:=hHeld
   have F5:=Lib.hid hF2
   clear hF2 F3 h0 h3 h4
   have E5:=E3
   clear E3
   refine on 2 none M14 fun K hK => ?_
   refine row_step (by rfl) rfl 78 (.tmp 6) (.tmp 167) rfl (w.heap.size + 2) _ rfl rfl 78 _ (F5.out.get 2 (b:=(w.heap.size + 2,78)) rfl hc2) (by kernel_rfl) (hs2.trans rfl) (by kernel_rfl) (fun w32 hb7 Ba => ?_)
   obtain ⟨OG,gU,e2,e3,e4,ZI⟩:=ZH.out.put (b:=w.heap.size + 2) rfl Ba hb7 rfl
   have F6:=Lib.hid ZI
   have HE2:=Lib.hid e2
   have kX:=Lib.hid e3
   have E6:=Lib.hid (E5.out.keep (AP (g:=w.heap.size + 2) Ba (AX 2 (b:=(w.heap.size + 2,78)) rfl)))
   clear hb7 Ba F5 E5 hc2 hs2 ZI e2 e3 e4 ZH
   refine hK.out _ _ OG (fun _ => ?_)
   clear hK K OG
   refine la 3 none nI fun K hK => ?_
   refine row_step (by rfl) rfl 194 (.tmp 7) (.tmp 168) rfl (w.heap.size + 3) _ rfl rfl 194 _ (F6.out.get 3 (b:=(w.heap.size + 3,194)) rfl kX.out) (by kernel_rfl) rfl (by kernel_rfl) (fun PI hb7 Ba => ?_)
   have F7:=Lib.hid (F6.out.put 3 (b:=(w.heap.size + 3,194)) rfl Ba hb7)
   have Iu:=Lib.hid ((Ba.block (w.heap.size + 2) (by omega)).trans (F6.out.get 2 (b:=(w.heap.size + 2,78)) rfl HE2.out))
   have kY:=Lib.hid hb7
   have E7:=Lib.hid (E6.out.keep (AP (g:=w.heap.size + 3) Ba (AX 3 (b:=(w.heap.size + 3,194)) rfl)))
   clear hb7 Ba F6 E6
   refine hK.out _ _ ?_
   clear hK K
   refine pu 4 8 nJ ?_
   refine BG (by kernel_rfl) ?_
   go_wp2
   have Dt:=run_loadVar_row (P:=Try.prog) PI _ 78 78 _ (0,0) _ Iu.out Try.underlying78 rfl (by kernel_rfl)
   have Jd:=run_loadVar_row (P:=Try.prog) PI _ 194 194 _ (0,0) _ kY.out Try.underlying194 rfl (by kernel_rfl)
   refine bodyPost_ret (v:=_) (D6 Try.results119 _ _ _ rfl rfl rfl Dt Jd) rfl ?_
   rw [wV.out]
   refine ⟨⟨_,_,_,rfl,?_,E7.out.b.up EH,E7.out.c⟩,F7.out.bw⟩
   rw [Le.out]
   exact ⟨_,_,_,_,_,rfl,E7.out.e.up EH⟩
  ·skip
   go_wp2_with (first | ((with_reducible refine AO (N:=156) rfl ?_); (refine F.out.ld 0 rfl 78 (.tmp 3) rfl rfl rfl rfl Try.underlying78 rfl (by kernel_rfl) ?_)) | (go_at_call 130; (clear Cb hcP); (have hz:=cO (F.out.slt HS.out) E.out.e); (with_reducible refine Go.Calls.mono hz ?_); (clear hz); (intro e w1 hq); (obtain ⟨⟨v,he,IW⟩,hb2⟩:=hq); (obtain ⟨Ed,A7,c7,A8,c8,hv,BM⟩:=IW); (subst hv); (subst he); (have F2:=Lib.hid (F.out.below hb2)); (have E2:=Lib.hid (EB.mk BM (E.out.b.below hb2) E.out.c)); (clear hb2 BM); (clear F E); (have F:=F2); (have E:=E2); (clear F2 E2); (have Cb:=F.out.CO 0 rfl rfl); (have hcP:=F.out.CO 1 rfl rfl)) | ((with_reducible refine gate_ (.store 78 (.tmp 3) (.tmp 166)) rfl ?_); ((refine F.out.st 0 rfl rfl 78 (.tmp 3) _ rfl rfl rfl rfl rfl (by kernel_rfl) rfl (by kernel_rfl) ?_); (clear Cb hcP); (intro W2 hF hA); (have F2:=Lib.hid hF); (have E2:=Lib.hid (E.out.keep (AP hA (AX 0 rfl)))); (clear hF hA); (clear F E); (have F:=F2); (have E:=E2); (clear F2 E2); (have Cb:=F.out.CO 0 rfl rfl); (have hcP:=F.out.CO 1 rfl rfl))))
   have Le:=Lib.hid (Le.out.trans (by rw [tN.out]))
   clear Cb hcP
   have F3:=Lib.hid (F.out.below (AZ (Below.refl _ _)))
   have E3:=Lib.hid (E.out.below (AZ (Below.refl _ _)))
   clear F E
   refine BA (n:=5) (S:=SE w _ _ #[.bool false,.bool false,.bool false,.slice none 0 0] _) (ds:=[3]) nG (by kernel_rfl) rfl rfl ⟨_,rfl,⟨_,rfl,rfl⟩,rfl,rfl,F3.out⟩ (fun hHeld => ?_)
   refine tk 0 167 nH hHeld ?_ (hf:=by rintro w' ⟨SB,h0,h2,h3,h4,hF⟩; refine DX 78 (.tmp 3) ?_ _ ?_ 78 _ (0,0) _ (hF.get 0 rfl h0) Try.underlying78 rfl (by kernel_rfl) <;> rfl)
   refine tk 1 168 M11 hHeld ?_ (hf:=by rintro w' ⟨SB,h0,h2,h3,h4,hF⟩; refine DX 194 (.tmp 12) ?_ _ ?_ 194 _ (0,0) _ (hF.get 4 rfl h4) Try.underlying194 rfl (by kernel_rfl) <;> rfl)
   have ZH:=Lib.hid hHeld
   obtain ⟨SB,h0,⟨c2,hc2,hs2⟩,h3,h4,hF2⟩:=hHeld
   have F5:=Lib.hid hF2
   clear hF2 F3 h0 h3 h4
   have E5:=E3
   clear E3
   refine on 2 none M14 fun K hK => ?_
   refine row_step (by rfl) rfl 78 (.tmp 6) (.tmp 167) rfl (w.heap.size + 2) _ rfl rfl 78 _ (F5.out.get 2 (b:=(w.heap.size + 2,78)) rfl hc2) (by kernel_rfl) (hs2.trans rfl) (by kernel_rfl) (fun w32 hb7 Ba => ?_)
   obtain ⟨OG,gU,e2,e3,e4,ZI⟩:=ZH.out.put (b:=w.heap.size + 2) rfl Ba hb7 rfl
   have F6:=Lib.hid ZI
   have HE2:=Lib.hid e2
   have kX:=Lib.hid e3
   have E6:=Lib.hid (E5.out.keep (AP (g:=w.heap.size + 2) Ba (AX 2 (b:=(w.heap.size + 2,78)) rfl)))
   clear hb7 Ba F5 E5 hc2 hs2 ZI e2 e3 e4 ZH
   refine hK.out _ _ OG (fun _ => ?_)
   clear hK K OG
   refine la 3 none nI fun K hK => ?_
   refine row_step (by rfl) rfl 194 (.tmp 7) (.tmp 168) rfl (w.heap.size + 3) _ rfl rfl 194 _ (F6.out.get 3 (b:=(w.heap.size + 3,194)) rfl kX.out) (by kernel_rfl) rfl (by kernel_rfl) (fun PI hb7 Ba => ?_)
   have F7:=Lib.hid (F6.out.put 3 (b:=(w.heap.size + 3,194)) rfl Ba hb7)
   have Iu:=Lib.hid ((Ba.block (w.heap.size + 2) (by omega)).trans (F6.out.get 2 (b:=(w.heap.size + 2,78)) rfl HE2.out))
   have kY:=Lib.hid hb7
   have E7:=Lib.hid (E6.out.keep (AP (g:=w.heap.size + 3) Ba (AX 3 (b:=(w.heap.size + 3,194)) rfl)))
   clear hb7 Ba F6 E6
   refine hK.out _ _ ?_
   clear hK K
   refine pu 4 8 nJ ?_
   refine BG (by kernel_rfl) ?_
   go_wp2
   have Dt:=run_loadVar_row (P:=Try.prog) PI _ 78 78 _ (0,0) _ Iu.out Try.underlying78 rfl (by kernel_rfl)
   have Jd:=run_loadVar_row (P:=Try.prog) PI _ 194 194 _ (0,0) _ kY.out Try.underlying194 rfl (by kernel_rfl)
   refine bodyPost_ret (v:=_) (D6 Try.results119 _ _ _ rfl rfl rfl Dt Jd) rfl ?_
   rw [wV.out]
   refine ⟨⟨_,_,_,rfl,?_,E7.out.b.up EH,E7.out.c⟩,F7.out.bw⟩
   rw [Le.out]
   exact ⟨_,_,_,_,_,rfl,E7.out.e.up EH⟩
  ·skip
   have hsl:=Y2 Aq L.queue.length cq kn Q3.out.1 HE.out.qc
   obtain ⟨A7,Pq⟩:∃ A,A = (if cq = kn then Aq else Aq.map (·.add (kn * YU.sz))):=⟨_,rfl⟩
   rw [← Pq] at hsl
   have zy:=Lib.hid hsl
   have ay:=Lib.hid Pq
   clear hsl Pq
   go_wp2_with (first | ((with_reducible refine AO (N:=124) rfl ?_); (refine KN (fun vv ww => (Value.slice A7 (L.queue.length - kn) (cq - kn)) = vv ∧ _ = ww) rfl ⟨_,_,(by have hz1:=zy.out; first | (go_simp; done) | (go_simp; rfl)),rfl,rfl⟩ (fun vv ww hvv => ?_)); (obtain ⟨hv9,zl⟩:=hvv); (subst hv9); (subst zl)) | ((with_reducible refine gate_ (.store 45 (.tmp 125) (.tmp 124)) rfl ?_); (clear Cb hcP); (refine AU (fun wz => Fm w wz _ _ ∧ Steps.At _ _ wz) rfl rfl ⟨_,(by have hz0:=F.out.get 0 rfl rfl; have hz1:=AA hz0 6; have hz2:=AL hz0 6; simp only [List.getElem?_toArray,List.getElem?_cons_succ,List.getElem?_cons_zero] at hz1; first | (go_simp; done) | (go_simp; rfl)),F.out.EP 0 rfl rfl 6 _,Steps.At.set (Steps.At.refl _ _) _ _⟩ (fun W2 hF => ?_)); (have F2:=Lib.hid hF.1); (have E2:=Lib.hid (E.out.keep (AP hF.2 (AX 0 rfl)))); (clear hF); (clear F E); (have F:=F2); (have E:=E2); (clear F2 E2); (have Cb:=F.out.CO 0 rfl rfl); (have hcP:=F.out.CO 1 rfl rfl)) | ((with_reducible refine gate_ (.store 3 (.tmp 131) (.tmp 130)) rfl ?_); (clear Cb hcP); (refine AU (fun wz => Fm w wz _ _ ∧ Steps.At _ _ wz) rfl rfl ⟨_,(by have hz0:=F.out.get 0 rfl rfl; have hz1:=AA hz0 7; have hz2:=AL hz0 7; simp only [List.getElem?_toArray,List.getElem?_cons_succ,List.getElem?_cons_zero] at hz1; first | (go_simp; done) | (go_simp; rfl)),F.out.EP 0 rfl rfl 7 _,Steps.At.set (Steps.At.refl _ _) _ _⟩ (fun W2 hF => ?_)); (have F2:=Lib.hid hF.1); (have E2:=Lib.hid (E.out.keep (AP hF.2 (AX 0 rfl)))); (clear hF); (clear F E); (have F:=F2); (have E:=E2); (clear F2 E2); (have Cb:=F.out.CO 0 rfl rfl); (have hcP:=F.out.CO 1 rfl rfl)) | ((with_reducible refine gate_ (.store 3 (.tmp 132) (.const (.int .i64 0))) rfl ?_); (clear Cb hcP); (refine AU (fun wz => Fm w wz _ _ ∧ Steps.At _ _ wz) rfl rfl ⟨_,(by have hz0:=F.out.get 0 rfl rfl; have hz1:=AA hz0 10; have hz2:=AL hz0 10; simp only [List.getElem?_toArray,List.getElem?_cons_succ,List.getElem?_cons_zero] at hz1; first | (go_simp; done) | (go_simp; rfl)),F.out.EP 0 rfl rfl 10 _,Steps.At.set (Steps.At.refl _ _) _ _⟩ (fun W2 hF => ?_)); (have F2:=Lib.hid hF.1); (have E2:=Lib.hid (E.out.keep (AP hF.2 (AX 0 rfl)))); (clear hF); (clear F E); (have F:=F2); (have E:=E2); (clear F2 E2); (have Cb:=F.out.CO 0 rfl rfl); (have hcP:=F.out.CO 1 rfl rfl)))
   have E2:=Lib.hid (E.out.cut Q3.out.1 ay.out)
   clear E Cb hcP
   have E:=E2
   clear E2
   have AAA:=Lib.hid (Jy kW.out Q3.out.2)
   obtain ⟨A4,c4,hF4,hE4⟩:=E.out.pack F.out rfl wV.out
   have aG:=Lib.hid hF4
   have HE4:=Lib.hid hE4
   clear hF4 hE4 E F
   go_loopg [] (8 - (L.sent - (kn:Int))).toNat (fun m wr => ∃ (L':Lk) (PE:Int) (A7:Option Addr) (n7 c7:Nat) (A8:Option Addr) (c8:Nat),m = (8 - L'.sent).toNat ∧ BL L' = N ∧ L'.Ok ∧ L'.idle = 0 ∧ L'.phase ≠ 0 ∧ n7 = L'.queue.length ∧ Fm w wr ([(w.heap.size,78),(w.heap.size + 1,27),(w.heap.size + 2,78),(w.heap.size + 3,194)] ++ [(w1.heap.size,194)]) [#[.int .u32 L'.own,.int .i64 L'.phase,.int .u32 L'.token,.int .u32 L'.AB,.int .u32 L'.yours,.bool L'.known,.slice A7 n7 c7,.int .i64 L'.sent,.int .u32 PE,.int .u32 L'.expected,.int .i64 L'.idle,.slice A8 L'.out.length c8],#[.int .i64 p.kind,.int .u32 p.mine,.int .u32 p.AB,.int .u32 p.yours,.int .u32 p.seq,.int .u32 p.AV,.int .u32 p.stamp,.int .u32 p.echo,.complex .f64 p.zr p.zi,.slice Ab p.body.length cb],#[.int .u32 0,.int .i64 0,.int .u32 0,.int .u32 0,.int .u32 0,.bool false,.slice none 0 0,.int .i64 0,.int .u32 0,.int .u32 0,.int .i64 0,.slice none 0 0],#[.bool false,.bool false,.bool false,.slice none 0 0],#[.bool true,.bool false,.bool false,.slice A4 TB.length c4]] ∧ EB (fS S ([(w.heap.size,78),(w.heap.size + 1,27),(w.heap.size + 2,78),(w.heap.size + 3,194)] ++ [(w1.heap.size,194)])) wr L' PE A7 c7 A8 c8 A4 TB c4)
   case atStart => exact ⟨_,nx,A7,_,cq - kn,Ao,co,rfl,tN.out.symm,AAA.out,rfl,HP.out,(List.length_drop ..).symm,aG.out,HE4.out⟩
   case round =>
    clear aG HE4
    obtain ⟨L',PE,A7,n7,c7,A8,c8,hm,hf,hok',tV,tX,rfl,hF,hE⟩:=hrel
    have HMM:=Lib.hid hm
    have HF:=Lib.hid hf
    have HID:=Lib.hid tV
    have FH:=Lib.hid tX
    have tY:=Lib.hid hok'
    have F:=Lib.hid hF
    have E:=Lib.hid hE
    have hs9:=hok'.sent
    have hq9:=hok'.queue
    clear hm hf tV tX hF hE hok'
    have Cb:=F.out.CO 0 rfl rfl
    have hcP:=F.out.CO 1 rfl rfl
    by_cases h8:L'.sent < 8
    ·by_cases hq:L'.sent < (L'.queue.length:Int)
     ·have hd8:decide (L'.sent < 8) = true:=by simp [h8]
      have hdq:decide (L'.sent < (L'.queue.length:Int)) = true:=by simp [hq]
      have H8:=Lib.hid h8
      have HQ:=Lib.hid hq
      go_wp2_with (first | ((with_reducible refine gate_ (.store 3 (.tmp 147) (.tmp 146)) rfl ?_); (clear Cb hcP); (refine AU (fun wz => Fm w wz _ _ ∧ Steps.At _ _ wz) rfl rfl ⟨_,(by have hz0:=F.out.get 0 rfl rfl; have hz1:=AA hz0 7; have hz2:=AL hz0 7; simp only [List.getElem?_toArray,List.getElem?_cons_succ,List.getElem?_cons_zero] at hz1; first | (go_simp; done) | (go_simp; rfl)),F.out.EP 0 rfl rfl 7 _,Steps.At.set (Steps.At.refl _ _) _ _⟩ (fun W2 hF => ?_)); (have F2:=Lib.hid hF.1); (have E2:=Lib.hid (E.out.keep (AP hF.2 (AX 0 rfl)))); (clear hF); (clear F E); (have F:=F2); (have E:=E2); (clear F2 E2); (have Cb:=F.out.CO 0 rfl rfl); (have hcP:=F.out.CO 1 rfl rfl)) | ((with_reducible refine AO (N:=148) rfl ?_); (refine F.out.ld 0 rfl 78 (.tmp 3) rfl rfl rfl rfl Try.underlying78 rfl (by kernel_rfl) ?_)) | (go_at_call 118; (clear Cb hcP); (have hz:=sO (F.out.slt HS.out) tY.out FH.out HID.out HQ.out H8.out E.out.e); (with_reducible refine Go.Calls.mono hz ?_); (clear hz); (intro e w1 hq2); (obtain ⟨⟨v,he,IW⟩,hb2⟩:=hq2); (obtain ⟨Ed,A7,c7,A8,c8,hv,BM⟩:=IW); (subst hv); (subst he); (have F2:=Lib.hid (F.out.below hb2)); (have E2:=Lib.hid (EB.mk BM (E.out.b.below hb2) E.out.c)); (clear hb2 BM); (clear F E); (have F:=F2); (have E:=E2); (clear F2 E2); (have Cb:=F.out.CO 0 rfl rfl); (have hcP:=F.out.CO 1 rfl rfl)) | ((with_reducible refine gate_ (.store 78 (.tmp 3) (.tmp 152)) rfl ?_); ((refine F.out.st 0 rfl rfl 78 (.tmp 3) _ rfl rfl rfl rfl rfl (by kernel_rfl) rfl (by kernel_rfl) ?_); (clear Cb hcP); (intro W2 hF hA); (have F2:=Lib.hid hF); (have E2:=Lib.hid (E.out.keep (AP hA (AX 0 rfl)))); (clear hF hA); (clear F E); (have F:=F2); (have E:=E2); (clear F2 E2); (have Cb:=F.out.CO 0 rfl rfl); (have hcP:=F.out.CO 1 rfl rfl))))
      go_roundg (8 - (L'.sent + 1)).toNat
      case measure => have:=HMM.out; have:=H8.out; omega
      case rel => exact ⟨_,_,_,_,_,_,_,by rw [Di],(cZ HQ.out H8.out).trans HF.out,IK tY.out HQ.out H8.out,(QJ _ HID.out),(by rw [(Pr.FC _).phase]; exact FH.out),rfl,F.out,E.out⟩
     ·have hd8:decide (L'.sent < 8) = true:=by simp [h8]
      have hdq:decide (L'.sent < (L'.queue.length:Int)) = false:=by simp; omega
      have jB:=Lib.hid ((Ro (fun h => hq h.1)).symm.trans HF.out)
      go_wp2_with (first | ((with_reducible refine AO (N:=156) rfl ?_); (refine F.out.ld 0 rfl 78 (.tmp 3) rfl rfl rfl rfl Try.underlying78 rfl (by kernel_rfl) ?_)) | (go_at_call 130; (clear Cb hcP); (have hz:=cO (F.out.slt HS.out) E.out.e); (with_reducible refine Go.Calls.mono hz ?_); (clear hz); (intro e w1 hq); (obtain ⟨⟨v,he,IW⟩,hb2⟩:=hq); (obtain ⟨Ed,A7,c7,A8,c8,hv,BM⟩:=IW); (subst hv); (subst he); (have F2:=Lib.hid (F.out.below hb2)); (have E2:=Lib.hid (EB.mk BM (E.out.b.below hb2) E.out.c)); (clear hb2 BM); (clear F E); (have F:=F2); (have E:=E2); (clear F2 E2); (have Cb:=F.out.CO 0 rfl rfl); (have hcP:=F.out.CO 1 rfl rfl)) | ((with_reducible refine gate_ (.store 78 (.tmp 3) (.tmp 166)) rfl ?_); ((refine F.out.st 0 rfl rfl 78 (.tmp 3) _ rfl rfl rfl rfl rfl (by kernel_rfl) rfl (by kernel_rfl) ?_); (clear Cb hcP); (intro W2 hF hA); (have F2:=Lib.hid hF); (have E2:=Lib.hid (E.out.keep (AP hA (AX 0 rfl)))); (clear hF hA); (clear F E); (have F:=F2); (have E:=E2); (clear F2 E2); (have Cb:=F.out.CO 0 rfl rfl); (have hcP:=F.out.CO 1 rfl rfl))))
      have Le:=Lib.hid (Le.out.trans (by rw [← jB.out]))
      clear Cb hcP
      have F3:=Lib.hid (F.out.below (AZ (Below.refl _ _)))
      have E3:=Lib.hid (E.out.below (AZ (Below.refl _ _)))
      clear F E
      refine BA (n:=5) (S:=SE w _ _ #[.bool false,.bool false,.bool false,.slice none 0 0] _) (ds:=[3]) nG (by kernel_rfl) rfl rfl ⟨_,rfl,⟨_,rfl,rfl⟩,rfl,rfl,F3.out⟩ (fun hHeld => ?_)
      refine tk 0 167 nH hHeld ?_ (hf:=by rintro w' ⟨SB,h0,h2,h3,h4,hF⟩; refine DX 78 (.tmp 3) ?_ _ ?_ 78 _ (0,0) _ (hF.get 0 rfl h0) Try.underlying78 rfl (by kernel_rfl) <;> rfl)
      refine tk 1 168 M11 hHeld ?_ (hf:=by rintro w' ⟨SB,h0,h2,h3,h4,hF⟩; refine DX 194 (.tmp 12) ?_ _ ?_ 194 _ (0,0) _ (hF.get 4 rfl h4) Try.underlying194 rfl (by kernel_rfl) <;> rfl)
      have ZH:=Lib.hid hHeld
      obtain ⟨SB,h0,⟨c2,hc2,hs2⟩,h3,h4,hF2⟩:=hHeld
      have F5:=Lib.hid hF2
      clear hF2 F3 h0 h3 h4
      have E5:=E3
      clear E3
      refine on 2 none M14 fun K hK => ?_
      refine row_step (by rfl) rfl 78 (.tmp 6) (.tmp 167) rfl (w.heap.size + 2) _ rfl rfl 78 _ (F5.out.get 2 (b:=(w.heap.size + 2,78)) rfl hc2) (by kernel_rfl) (hs2.trans rfl) (by kernel_rfl) (fun w32 hb7 Ba => ?_)
      obtain ⟨OG,gU,e2,e3,e4,ZI⟩:=ZH.out.put (b:=w.heap.size + 2) rfl Ba hb7 rfl
      have F6:=Lib.hid ZI
      have HE2:=Lib.hid e2
      have kX:=Lib.hid e3
      have E6:=Lib.hid (E5.out.keep (AP (g:=w.heap.size + 2) Ba (AX 2 (b:=(w.heap.size + 2,78)) rfl)))
      clear hb7 Ba F5 E5 hc2 hs2 ZI e2 e3 e4 ZH
      refine hK.out _ _ OG (fun _ => ?_)
      clear hK K OG
      refine la 3 none nI fun K hK => ?_
      refine row_step (by rfl) rfl 194 (.tmp 7) (.tmp 168) rfl (w.heap.size + 3) _ rfl rfl 194 _ (F6.out.get 3 (b:=(w.heap.size + 3,194)) rfl kX.out) (by kernel_rfl) rfl (by kernel_rfl) (fun PI hb7 Ba => ?_)
      have F7:=Lib.hid (F6.out.put 3 (b:=(w.heap.size + 3,194)) rfl Ba hb7)
      have Iu:=Lib.hid ((Ba.block (w.heap.size + 2) (by omega)).trans (F6.out.get 2 (b:=(w.heap.size + 2,78)) rfl HE2.out))
      have kY:=Lib.hid hb7
      have E7:=Lib.hid (E6.out.keep (AP (g:=w.heap.size + 3) Ba (AX 3 (b:=(w.heap.size + 3,194)) rfl)))
      clear hb7 Ba F6 E6
      refine hK.out _ _ ?_
      clear hK K
      refine pu 4 8 nJ ?_
      refine BG (by kernel_rfl) ?_
      go_wp2
      have Dt:=run_loadVar_row (P:=Try.prog) PI _ 78 78 _ (0,0) _ Iu.out Try.underlying78 rfl (by kernel_rfl)
      have Jd:=run_loadVar_row (P:=Try.prog) PI _ 194 194 _ (0,0) _ kY.out Try.underlying194 rfl (by kernel_rfl)
      refine bodyPost_ret (v:=_) (D6 Try.results119 _ _ _ rfl rfl rfl Dt Jd) rfl ?_
      refine ⟨⟨_,_,_,rfl,?_,E7.out.b.up EH,E7.out.c⟩,F7.out.bw⟩
      rw [Le.out]
      exact ⟨_,_,_,_,_,rfl,E7.out.e.up EH⟩
    ·have hd8:decide (L'.sent < 8) = false:=by simp; omega
     have jB:=Lib.hid ((Ro (fun h => h8 h.2)).symm.trans HF.out)
     go_wp2_with (first | ((with_reducible refine AO (N:=156) rfl ?_); (refine F.out.ld 0 rfl 78 (.tmp 3) rfl rfl rfl rfl Try.underlying78 rfl (by kernel_rfl) ?_)) | (go_at_call 130; (clear Cb hcP); (have hz:=cO (F.out.slt HS.out) E.out.e); (with_reducible refine Go.Calls.mono hz ?_); (clear hz); (intro e w1 hq); (obtain ⟨⟨v,he,IW⟩,hb2⟩:=hq); (obtain ⟨Ed,A7,c7,A8,c8,hv,BM⟩:=IW); (subst hv); (subst he); (have F2:=Lib.hid (F.out.below hb2)); (have E2:=Lib.hid (EB.mk BM (E.out.b.below hb2) E.out.c)); (clear hb2 BM); (clear F E); (have F:=F2); (have E:=E2); (clear F2 E2); (have Cb:=F.out.CO 0 rfl rfl); (have hcP:=F.out.CO 1 rfl rfl)) | ((with_reducible refine gate_ (.store 78 (.tmp 3) (.tmp 166)) rfl ?_); ((refine F.out.st 0 rfl rfl 78 (.tmp 3) _ rfl rfl rfl rfl rfl (by kernel_rfl) rfl (by kernel_rfl) ?_); (clear Cb hcP); (intro W2 hF hA); (have F2:=Lib.hid hF); (have E2:=Lib.hid (E.out.keep (AP hA (AX 0 rfl)))); (clear hF hA); (clear F E); (have F:=F2); (have E:=E2); (clear F2 E2); (have Cb:=F.out.CO 0 rfl rfl); (have hcP:=F.out.CO 1 rfl rfl))))
     have Le:=Lib.hid (Le.out.trans (by rw [← jB.out]))
     clear Cb hcP
     have F3:=Lib.hid (F.out.below (AZ (Below.refl _ _)))
     have E3:=Lib.hid (E.out.below (AZ (Below.refl _ _)))
     clear F E
     refine BA (n:=5) (S:=SE w _ _ #[.bool false,.bool false,.bool false,.slice none 0 0] _) (ds:=[3]) nG (by kernel_rfl) rfl rfl ⟨_,rfl,⟨_,rfl,rfl⟩,rfl,rfl,F3.out⟩ (fun hHeld => ?_)
     refine tk 0 167 nH hHeld ?_ (hf:=by rintro w' ⟨SB,h0,h2,h3,h4,hF⟩; refine DX 78 (.tmp 3) ?_ _ ?_ 78 _ (0,0) _ (hF.get 0 rfl h0) Try.underlying78 rfl (by kernel_rfl) <;> rfl)
     refine tk 1 168 M11 hHeld ?_ (hf:=by rintro w' ⟨SB,h0,h2,h3,h4,hF⟩; refine DX 194 (.tmp 12) ?_ _ ?_ 194 _ (0,0) _ (hF.get 4 rfl h4) Try.underlying194 rfl (by kernel_rfl) <;> rfl)
     have ZH:=Lib.hid hHeld
     obtain ⟨SB,h0,⟨c2,hc2,hs2⟩,h3,h4,hF2⟩:=hHeld
     have F5:=Lib.hid hF2
     clear hF2 F3 h0 h3 h4
     have E5:=E3
     clear E3
     refine on 2 none M14 fun K hK => ?_
     refine row_step (by rfl) rfl 78 (.tmp 6) (.tmp 167) rfl (w.heap.size + 2) _ rfl rfl 78 _ (F5.out.get 2 (b:=(w.heap.size + 2,78)) rfl hc2) (by kernel_rfl) (hs2.trans rfl) (by kernel_rfl) (fun w32 hb7 Ba => ?_)
     obtain ⟨OG,gU,e2,e3,e4,ZI⟩:=ZH.out.put (b:=w.heap.size + 2) rfl Ba hb7 rfl
     have F6:=Lib.hid ZI
     have HE2:=Lib.hid e2
     have kX:=Lib.hid e3
     have E6:=Lib.hid (E5.out.keep (AP (g:=w.heap.size + 2) Ba (AX 2 (b:=(w.heap.size + 2,78)) rfl)))
     clear hb7 Ba F5 E5 hc2 hs2 ZI e2 e3 e4 ZH
     refine hK.out _ _ OG (fun _ => ?_)
     clear hK K OG
     refine la 3 none nI fun K hK => ?_
     refine row_step (by rfl) rfl 194 (.tmp 7) (.tmp 168) rfl (w.heap.size + 3) _ rfl rfl 194 _ (F6.out.get 3 (b:=(w.heap.size + 3,194)) rfl kX.out) (by kernel_rfl) rfl (by kernel_rfl) (fun PI hb7 Ba => ?_)
     have F7:=Lib.hid (F6.out.put 3 (b:=(w.heap.size + 3,194)) rfl Ba hb7)
     have Iu:=Lib.hid ((Ba.block (w.heap.size + 2) (by omega)).trans (F6.out.get 2 (b:=(w.heap.size + 2,78)) rfl HE2.out))
     have kY:=Lib.hid hb7
     have E7:=Lib.hid (E6.out.keep (AP (g:=w.heap.size + 3) Ba (AX 3 (b:=(w.heap.size + 3,194)) rfl)))
     clear hb7 Ba F6 E6
     refine hK.out _ _ ?_
     clear hK K
     refine pu 4 8 nJ ?_
     refine BG (by kernel_rfl) ?_
     go_wp2
     have Dt:=run_loadVar_row (P:=Try.prog) PI _ 78 78 _ (0,0) _ Iu.out Try.underlying78 rfl (by kernel_rfl)
     have Jd:=run_loadVar_row (P:=Try.prog) PI _ 194 194 _ (0,0) _ kY.out Try.underlying194 rfl (by kernel_rfl)
     refine bodyPost_ret (v:=_) (D6 Try.results119 _ _ _ rfl rfl rfl Dt Jd) rfl ?_
     refine ⟨⟨_,_,_,rfl,?_,E7.out.b.up EH,E7.out.c⟩,F7.out.bw⟩
     rw [Le.out]
     exact ⟨_,_,_,_,_,rfl,E7.out.e.up EH⟩
  )):p:=h
theorem Z23 {p:Prop} (h:p:=by
 obtain ⟨hp1,hd1,hd2,hp3,hd3,hd4⟩:=dH
 have hkb:0 ≤ kn ∧ (kn:Int) < 4294967296:=by have h1:=Lk.wrap32 (p.AV - L.base); rw [hkk] at h1; omega
 have kW:=Lib.hid (show Lk.Ok { L with expected:=xe } from ⟨hok.own,hok.phase,hok.token,hok.AB,hok.yours,hok.queue,hok.rows,hok.sent,hok.base,hxe,hok.idle,hok.out⟩)
 have HBB:=Lib.hid hok.base
 have HSQ:=Lib.hid hok.sent
 have hsn:=hok.sent
 have VK:=hok.queue
 have HKK:=Lib.hid hkk
 have HAB:=Lib.hid hab
 have HM:=Lib.hid hm
 have HP:=Lib.hid hp
 have BB:=Lib.hid hbd
 have VP:=Lib.hid hpl
 have zx:=Lib.hid hN
 have HXE:=Lib.hid hxe
 have HE:=Lib.hid h
 have HS:=Lib.hid hS
 have HR:=Lib.hid hr
 have HC:=Lib.hid hc
 have Df:=Try.underlying78
 have CP:=Try.underlying27
 have PK:=Try.underlying194
 clear h hS hok hr hc hkk hab hm hp hbd hpl hxe hN
 obtain ⟨hk2,Jc,rfl,wV,Le⟩:=hD
 all_goals exact Z0):p:=h
theorem XO {S:Nat → Prop} {w:World} (hS:∀ k,S k → k < w.heap.size) {L:Lk} (hok:L.Ok) {nx:Int} {Aq:Option Addr} {cq:Nat} {Ao:Option Addr} {co:Nat} (h:RE S w L nx Aq cq Ao co) (AB:Int) (p:Bz) (Ab:Option Addr) (cb:Nat) (hr:0 ≤ p.mine ∧ 0 ≤ p.AB ∧ 0 ≤ p.yours ∧ 0 ≤ p.seq ∧ p.zr < 18446744073709551616 ∧ p.zi < 18446744073709551616) (hab:0 ≤ p.AV ∧ p.AV < 4294967296) (hc:Bg p.kind p.mine p.AB p.yours p.seq p.AV p.stamp p.echo p.zr p.zi p.body.length = 0) (hb:(AB == 0) = false) (hbd:Gl S w Ab p.body) (hpl:p.body.length ≤ 1000)
  (hq0:(L.phase == 0) = false) (hq2:(L.phase != 2) = false) (hp:L.phase ≠ 0) (hk:(p.kind == 1) = false) (dH:¬ AB < L.AB ∧ decide (AB < L.AB) = false ∧ (AB == L.AB) = true ∧ ¬ p.mine < L.yours ∧ decide (p.mine < L.yours) = false ∧ (p.mine == L.yours) = true) (hm:BI L p = true)
  (kn:Nat) (hkk:IntKind.u32.wrap (p.AV - L.base) = kn) (xe:Int) (hxe:0 ≤ xe ∧ xe < 4294967296) (N R:Lk) (TB:List Int) (hN:(decide ((kn:Int) ≥ 1) = false ∧ Hid (N = { L with expected:=xe })) ∨ (decide ((kn:Int) ≥ 1) = true ∧ decide ((kn:Int) ≤ L.sent) = false ∧ Hid (N = { L with expected:=xe })) ∨ (decide ((kn:Int) ≥ 1) = true ∧ decide ((kn:Int) ≤ L.sent) = true ∧ Hid (kn ≤ L.queue.length ∧ (kn:Int) ≤ L.sent) ∧ Hid (N = BL (CZ { L with expected:=xe } kn)))) (hD:((p.kind == 2) = true ∧ (p.seq == L.expected) = true ∧ xe = (L.expected + 1) % 4294967296 ∧ Hid (TB = p.body) ∧ Hid (R = emit_ N (Hy N)))) :
  Calls Try.prog 119 #[EV L nx Aq L.queue.length cq Ao L.out.length co,.int .u32 AB,.agg #[.int .i64 p.kind,.int .u32 p.mine,.int .u32 p.AB,.int .u32 p.yours,.int .u32 p.seq,.int .u32 p.AV,.int .u32 p.stamp,.int .u32 p.echo,.complex .f64 p.zr p.zi,.slice Ab p.body.length cb]] w fun e w' => (∃ v A c,e = .returned (.tuple #[v,.agg #[.bool true,.bool false,.bool false,.slice A TB.length c],.int .i64 0]) ∧ RV S w' R v ∧ Gl S w' A TB ∧ TB.length ≤ c) ∧ Below w.heap.size w w':=by
 exact Z23
theorem XP {S:Nat → Prop} {w:World} (hS:∀ k,S k → k < w.heap.size) {L:Lk} (hok:L.Ok) {nx:Int} {Aq:Option Addr} {cq:Nat} {Ao:Option Addr} {co:Nat} (h:RE S w L nx Aq cq Ao co) (AB:Int) (p:Bz) (Ab:Option Addr) (cb:Nat) (hr:0 ≤ p.mine ∧ 0 ≤ p.AB ∧ 0 ≤ p.yours ∧ 0 ≤ p.seq ∧ p.zr < 18446744073709551616 ∧ p.zi < 18446744073709551616) (hab:0 ≤ p.AV ∧ p.AV < 4294967296) (hc:Bg p.kind p.mine p.AB p.yours p.seq p.AV p.stamp p.echo p.zr p.zi p.body.length = 0) (hb:(AB == 0) = false) (hbd:Gl S w Ab p.body) (hpl:p.body.length ≤ 1000)
  (hq0:(L.phase == 0) = false) (hq2:(L.phase != 2) = false) (hp:L.phase ≠ 0) (hk:(p.kind == 1) = false) (dH:¬ AB < L.AB ∧ decide (AB < L.AB) = false ∧ (AB == L.AB) = true ∧ ¬ p.mine < L.yours ∧ decide (p.mine < L.yours) = false ∧ (p.mine == L.yours) = true) (hm:BI L p = true)
  (kn:Nat) (hkk:IntKind.u32.wrap (p.AV - L.base) = kn) (xe:Int) (hxe:0 ≤ xe ∧ xe < 4294967296) (N R:Lk) (TB:List Int) (hN:(decide ((kn:Int) ≥ 1) = false ∧ Hid (N = { L with expected:=xe })) ∨ (decide ((kn:Int) ≥ 1) = true ∧ decide ((kn:Int) ≤ L.sent) = false ∧ Hid (N = { L with expected:=xe })) ∨ (decide ((kn:Int) ≥ 1) = true ∧ decide ((kn:Int) ≤ L.sent) = true ∧ Hid (kn ≤ L.queue.length ∧ (kn:Int) ≤ L.sent) ∧ Hid (N = BL (CZ { L with expected:=xe } kn)))) (hD:((p.kind == 2) = true ∧ (p.seq == L.expected) = false ∧ xe = L.expected ∧ Hid (TB = []) ∧ Hid (R = emit_ N (Hy N)))) :
  Calls Try.prog 119 #[EV L nx Aq L.queue.length cq Ao L.out.length co,.int .u32 AB,.agg #[.int .i64 p.kind,.int .u32 p.mine,.int .u32 p.AB,.int .u32 p.yours,.int .u32 p.seq,.int .u32 p.AV,.int .u32 p.stamp,.int .u32 p.echo,.complex .f64 p.zr p.zi,.slice Ab p.body.length cb]] w fun e w' => (∃ v A c,e = .returned (.tuple #[v,.agg #[.bool true,.bool false,.bool false,.slice A TB.length c],.int .i64 0]) ∧ RV S w' R v ∧ Gl S w' A TB ∧ TB.length ≤ c) ∧ Below w.heap.size w w':=by
 exact Z23
end Go.Proofs.Ytnkkgofpifhoeaa.Rf
end
