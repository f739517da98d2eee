/- What the laws of a pair are proved with: links and pairs in memory, what their methods do, what a pair keeps to (part 21). -/
import Derived.Test.YtnkkgofpifhoeaaPG20
import Derived.Deep.LoopGhost
import Derived.Laws.StructEq
import Derived.Deep.MidRow
import Derived.ArgAppend
import Derived.LoopN
import Derived.Handy
import Derived.Lib.SlBytesConst
import Derived.Lib.SmallJoins
import Derived.Laws.FloatArith
set_option linter.unusedSimpArgs false
set_option linter.unusedVariables false
set_option maxRecDepth 100000
set_option maxHeartbeats 16000000
namespace Go.Proofs.Ytnkkgofpifhoeaa
theorem qJ {p:Prop} (h:p:=by
 go_wp2_with (((with_reducible refine gate_ (.store 185 (.tmp 2) (.tmp 14)) rfl ?_); refine Ae rfl rfl 185 (.tmp 2) (.tmp 14) rfl w.heap.size TZ rfl rfl 185 _ (heap_alloc_new w _) (by kernel_rfl) rfl (by kernel_rfl) ?_; intro w5 hb5 CQ; have Hy:=Lib.hid hb5; have Ey:=Lib.hid CQ; clear hb5 CQ))
 refine bodyPost_ret (v:=.tuple #[.agg TZ,.int .i64 12]) ?_ rfl ⟨rfl,Ey.out.below (DN ((Below.refl _ _).alloc (Nat.le_refl _) _) _) (Nat.le_refl _)⟩
 have hl5:=run_loadVar_row (P:=Try.prog) w5 w.heap.size 185 185 _ (0,0) _ Hy.out Try.underlying185 rfl (by kernel_rfl)
 exact Ag Try.results105 _ _ rfl rfl hl5):p:=h
end Go.Proofs.Ytnkkgofpifhoeaa
section
namespace Go.Proofs.Ytnkkgofpifhoeaa.Pe
open Go.RowKit Go.Proofs.Ytnkkgofpifhoeaa.Base Go.Proofs.Ytnkkgofpifhoeaa.Steps Go.Proofs.Ytnkkgofpifhoeaa.Lk Go.Proofs.YtnkkgofpifhoeaaW.PrintWords Go.Proofs.YtnkkgofpifhoeaaW.PrintLast
theorem WR:(Try.prog.info? 176).map (fun i => (i.zero,i.size,i.bytes)) = some (some (.agg #[.int .i64 0,.slice none 0 0]),2,32):=by kernel_rfl
theorem Gf {X:Ps} (h:∀ k,X.has k → (X.pn k).e.out.length ≤ 1024):∀ i,(DC X i).length ≤ 1024 * i
 | 0 => Nat.le_refl _
 | i + 1 => by
  have h1:=Gf h i
  unfold DC
  rw [List.length_append]
  split
  ·rename_i hx
   have h2:=h _ hx
   unfold Fg
   rw [List.length_map]
   omega
  ·simp only [List.length_nil]; omega
theorem Uk {α:Type} {d:Kd α} {e:Nat} {w w1:World} {b:Nat} {v:Value} {xs:List α} {S:Nat → Prop} (h:d.R e w b (fun _ => True) v xs) (hk:Kept w w1 S) (hS:∀ k,S k → k < b):d.R e w1 b (fun _ => True) v xs :=
 Kd.Az (Kd.BI (Kd.CW h) hk (fun k hb hs => by have:=hS k hs; have:=hb.2.1; omega)) (fun _ _ => trivial)
structure OW (w:World) (B gp:Nat) (a:Ad) (own:Nat → Nat → Prop) (X:Ps) (v0:Value) (i:Nat) (v:Value) (wr:World):Prop where
 at_:BV wr B gp X.nodes a own (Be X i) v0
 row:MH.R 176 wr w.heap.size (fun _ => True) v (DC X i)
 kept:Kept w wr (Al X a gp own)
 below:Below B w wr
structure IW (w w2:World) (X:Ps) (i:Nat) (ps:List BJ) (j:Nat) (v:Value) (wr:World):Prop where
 row:MH.R 176 wr w.heap.size (fun _ => True) v (DC X i ++ Fg (i + 1) (ps.take j))
 below:Below w.heap.size w2 wr
theorem IW.kept {w w2 wr:World} {X:Ps} {i j:Nat} {ps:List BJ} {v:Value} (h:IW w w2 X i ps j v wr):Kept w2 wr (fun k => w.heap.size ≤ k):=⟨h.below.size,fun k _ hn => h.below.block k (by omega)⟩
theorem Ot {w:World} {B gp:Nat} {a:Ad} {own:Nat → Nat → Prop} {X:Ps} {v0:Value} (h:BV w B gp X.nodes a own X v0) (hn:X.nodes ≤ 64) (hw:∀ k,X.has k → ∀ p ∈ (X.pn k).e.out,JX p) (ho:∀ k,X.has k → (X.pn k).e.out.length ≤ 1024) :
  Calls Try.prog 58 #[.pointer (some ⟨gp,0,none⟩)] w fun e w' => ∃ v,e = .returned v ∧ OW w B gp a own X v0 X.nodes v w':=by
 have HS:=Lib.hid (show OW w B gp a own X v0 0 (.slice none 0 0) w from ⟨h,Kd.Cc _ _ _ _ _,Kept.refl _ _,Below.refl _ _⟩)
 have hc2:w.cell? ⟨gp,2,none⟩ = some (.int .i64 X.nodes):=(AA h.blk 2).trans rfl
 have HB:=Lib.hid h.hB
 have HW:=Lib.hid hw
 have HO:=Lib.hid ho
 have kU:=Lib.hid h.WI
 generalize hnn:X.nodes = N at *
 have HN:=Lib.hid hn
 have kW:=Lib.hid hnn
 clear h hw ho hnn
 go_enter Try.func58,Try.ntmps58
 go_wp2_with fail
 go_loopg [17,3] N (fun m q v wr => ∃ i:Nat,m = N - i ∧ i ≤ N ∧ q = .int .i64 (i:Int) ∧ OW w B gp a own X v0 i v wr)
 case atStart => exact ⟨0,rfl,Nat.zero_le _,rfl,HS.out⟩
 case round =>
  obtain ⟨wo,rfl⟩:∃ wo:World,wo = wr:=⟨_,rfl⟩
  obtain ⟨i,hm,hin,rfl,hF⟩:=hrel
  have HM:=Lib.hid hm
  have XT:=Lib.hid hin
  have HF:=Lib.hid hF
  have hnr:=hF.row
  obtain ⟨A0,c0,hv⟩:=Kd.Am hnr
  subst hv
  have hc3:wo.cell? ⟨gp,3,none⟩ = some (.map (some a.r)):=(AA hF.at_.blk 3).trans rfl
  have hlk:=hF.at_.map.look ((i:Int) + 1)
  have hsm:=BR X i
  clear hm hin hF hnr HS hc2
  by_cases hlt:i < N
  ·have hd:decide ((i:Int) < (N:Int)) = true:=by simp [hlt]
   by_cases hx:X.has (i + 1)
   ·have hy:(Be X i).has (i + 1):=by unfold Ps.has; rw [hsm.2.1,hsm.2.2.1]; exact hx
    rw [show (Be X i).at_ a ((i:Int) + 1) = some (a.gx (i + 1)) from Ps.IV hy] at hlk
    simp only [ptr,Option.isSome] at hlk
    have hx0:wo.cell? ⟨a.gx (i + 1),0,none⟩ = some (.pointer (some ⟨a.ge (i + 1),0,none⟩)):=(AA (HF.out.at_.pk _ hy) 0).trans rfl
    have hoe:=WH (HF.out.at_.e (i + 1) hy)
    rw [GZ X i (i + 1) (by omega)] at hoe
    have yu:=Lib.hid hoe
    have HY:=Lib.hid hy
    have HX:=Lib.hid hx
    clear hoe hy hx hsm
    go_wp2_with (go_at_call 32; (have hc:=yu.out); (with_reducible refine hc.mono ?_); clear hc; rintro e w2 ⟨o,ZJ,rfl,ht,hR,hok,hsz⟩; (obtain ⟨A1,c1,ho1⟩:=Kd.Am hR); (subst ho1); (have hkk:Kept wo w2 (fun k => k < w.heap.size):=ht.2.1.mono (fun k hk => kU.out k (.inr ⟨_,hk⟩))); (have HR:=Lib.hid (Kd.Az hR hok)); (have HP2:=Lib.hid (HF.out.at_.aK HY.out ht hsz)); (have HI2:=Lib.hid (show IW w w2 X i (X.pn (i + 1)).e.out 0 (.slice A0 (DC X i).length c0) w2 from ⟨by rw [List.take_zero]; exact (List.append_nil _).symm ▸ Uk HF.out.row hkk (fun _ h => h),Below.refl _ _⟩)); (have WM:=Lib.hid (show Kept w w2 (Al X a gp own) from HF.out.kept.DT ht.2.1 (fun k hk => .inl (.inr ⟨_,hk⟩)))); (have HB2:=Lib.hid (HF.out.below.trans ht.2.2)); (clear hR hok hsz hkk ht))
    have yw:=Lib.hid (show (X.pn (i + 1)).e.out.length ≤ 1024 from HO.out _ HX.out)
    have yx:=Lib.hid (HW.out _ HX.out)
    have hnp:=yw.out
    generalize hps:(X.pn (i + 1)).e.out = ps at *
    have yz:=Lib.hid hps
    clear hps
    generalize hmm:ps.length = mm at *
    have iR:=Lib.hid hmm
    clear hmm hlk hx0
    go_loopg [38,3] mm (fun m q v wr => ∃ j:Nat,m = mm - j ∧ j ≤ mm ∧ q = .int .i64 (j:Int) ∧ IW w w2 X i ps j v wr)
    case atStart => exact ⟨0,rfl,Nat.zero_le _,rfl,HI2.out⟩
    case round =>
     obtain ⟨VV,rfl⟩:∃ VV:World,VV = wr:=⟨_,rfl⟩
     obtain ⟨j,hm,hjn,rfl,hI⟩:=hrel
     have y5:=Lib.hid hm
     have y7:=Lib.hid hjn
     have HI:=Lib.hid hI
     obtain ⟨A3,c3,hv⟩:=Kd.Am hI.row
     generalize hnl:(DC X i ++ Fg (i + 1) (ps.take j)).length = nl at hv
     have pO:=Lib.hid hnl
     clear hnl
     subst hv
     clear hm hjn hI HI2
     by_cases hjl:j < mm
     ·have hdj:decide ((j:Int) < (mm:Int)) = true:=by simp [hjl]
      have hR2:=Kd.BI HR.out HI.out.kept (fun k hk hn => by have:=kU.out k (.inr ⟨_,hk⟩); omega)
      obtain ⟨gx,cs,hA1,qK,hrg,hcl,-⟩:=Ui hR2 j hjl
      subst hA1
      obtain ⟨b2,hb2,kX⟩:=F5.1 qK
      subst hb2
      obtain ⟨A2,c2,hb3⟩:=Kd.Am kX
      subst hb3
      have hmem:ps.getD j Ir ∈ ps:=by rw [List.getD_eq_getElem?_getD,List.getElem?_eq_getElem (by rw [iR.out]; exact hjl)]; exact List.getElem_mem _
      have y8:=Lib.hid (yx.out _ hmem)
      have WC:=Lib.hid (show ps.take (j + 1) = ps.take j ++ [ps.getD j Ir] from by rw [List.take_add_one,List.getElem?_eq_getElem (by rw [iR.out]; exact hjl),List.getD_eq_getElem?_getD,List.getElem?_eq_getElem (by rw [iR.out]; exact hjl)]; rfl)
      generalize ps.getD j Ir = p at *
      have y9:=Lib.hid hrg
      have XJ:=Lib.hid (Kd.D9 kX).2.2
      have qL:=Lib.hid hjl
      have HLEN:=Lib.hid (show (DC X i ++ Fg (i + 1) (ps.take j)).length ≤ 100000 from by
       have h1:=Gf HO.out i
       have h2:=HN.out
       have h3:=XT.out
       unfold Fg
       rw [List.length_append,List.length_map,List.length_take]
       omega)
      clear hR2 qK hrg hcl kX hmem hjl
      have kY:=Lib.hid (show w.heap.size ≤ VV.heap.size from Nat.le_trans WM.out.1 HI.out.below.size)
      have HOWN:=Lib.hid (fun (k:Nat) (hk:some k = (Value.slice A3 nl c3).ownBlock) => (show k < VV.heap.size from by obtain ⟨inner,zA⟩:=Kd.XH HI.out.row; exact TC zA k hk.symm))
      have HZ:=Lib.hid (heap_alloc_new VV (.cells #[.int .i64 0,.int .u32 0,.int .u32 0,.int .u32 0,.int .u32 0,.int .u32 0,.int .u32 0,.int .u32 0,.complex .f64 0 0,.slice none 0 0] 27))
      go_wp2_with (first | ((with_reducible refine AV (N:=41) rfl ?_); (refine wpList_load_mid rfl 27 (.tmp 40) rfl gx (j * 10) (by first | rfl | (simp; done)) (cells p (.slice A2 p.body.length c2)) _ y9.out Try.underlying27 rfl (by kernel_rfl) ?_)) | ((with_reducible refine gate_ (.store 27 (.tmp 8) (.tmp 41)) rfl ?_); (refine Ae rfl rfl 27 (.tmp 8) (.tmp 41) rfl VV.heap.size #[.int .i64 p.kind,.int .u32 p.mine,.int .u32 p.AL,.int .u32 p.yours,.int .u32 p.seq,.int .u32 p.AX,.int .u32 p.stamp,.int .u32 p.echo,.complex .f64 p.zr p.zi,.slice A2 p.body.length c2] rfl rfl 27 _ HZ.out (by kernel_rfl) rfl (by kernel_rfl) ?_); (intro w8 hb8 aN); (have YY:=Lib.hid hb8); (have hbl:=(aN.below ((Below.refl VV.heap.size VV).alloc (Nat.le_refl _) _) (Nat.le_refl _))); (have WS:=Lib.hid hbl); (have hce:=WQ y8.out A2 c2 w8 (Kd.BQ XJ.out hbl)); (have zB:=Lib.hid hce); (clear hb8 aN hbl hce)) | ((with_reducible refine AV (N:=43) rfl ?_); (refine wpList_load_row rfl 27 (.tmp 8) rfl VV.heap.size (by rfl) 27 #[.int .i64 p.kind,.int .u32 p.mine,.int .u32 p.AL,.int .u32 p.yours,.int .u32 p.seq,.int .u32 p.AX,.int .u32 p.stamp,.int .u32 p.echo,.complex .f64 p.zr p.zi,.slice A2 p.body.length c2] (0,0) _ YY.out Try.underlying27 rfl (by kernel_rfl) ?_)) | (go_at_call 19; (have hc:=zB.out); (with_reducible refine hc.mono ?_); clear hc; rintro e w9 ⟨v9,rfl,CZ,EJ⟩; (obtain ⟨A9,c9,aQ⟩:=Kd.Am CZ); (generalize kZ:(Ej p).length = n9 at aQ); (clear kZ); (subst aQ); (have CE:=Lib.hid CZ); (have Bj:=Lib.hid (WS.out.trans (EJ.mono WS.out.size))); (clear CZ EJ)) | ((with_reducible refine AV (N:=55) rfl ?_); (refine Kd.Fq (W:=w9) (w0:=w2) MH w.heap.size rfl (.tmp 49) (.tmp 54) 103 176 (.agg #[.int .i64 0,.slice none 0 0]) 32 rfl Try.underlying103 WR rfl (by decide) (by decide) (.slice A3 nl c3) (DC X i ++ Fg (i + 1) (ps.take j)) ((((i + 1:Nat):Int)),Ej p) [.int .i64 ((i + 1:Nat):Int),.slice A9 n9 c9] (fun _ => True) (fun k => w8.heap.size ≤ k) rfl rfl (Uj.2 ⟨_,rfl,Kd.G8 (Kd.Az (Kd.CW CE.out) (fun k hk => hk.2.1)) (Nat.le_trans kY.out WS.out.size)⟩) (fun k hk => ⟨trivial,fun he => by have h1:=HOWN.out k he; have h2:=WS.out.size; omega⟩) (fun _ _ => trivial) (Kd.Eb HI.out.row Bj.out) (HI.out.below.trans (Bj.out.mono kY.out)) (Nat.le_trans kY.out Bj.out.size) (by have:=HLEN.out; omega) ?_); (intro v1 w1 hR1 hb1 hg1 FB); (have HI3:=Lib.hid (show IW w w2 X i ps (j + 1) v1 w1 from ⟨(by have h5:=hR1; rw [WC.out]; unfold Fg at h5 ⊢; rw [List.map_append,← List.append_assoc]; exact h5),hb1⟩)); (clear hR1 hb1 hg1 FB)))
      go_roundg (mm - (j + 1))
      case measure => have:=y5.out; have:=qL.out; omega
      case rel => exact ⟨j + 1,rfl,by have:=qL.out; omega,by first | rfl | simp,HI3.out⟩
     ·have hdj:decide ((j:Int) < (mm:Int)) = false:=by simp; omega
      have hje:j = mm:=by have:=y7.out; omega
      have hall:ps.take j = ps:=List.take_of_length_le (by rw [hje,iR.out]; exact Nat.le_refl _)
      have HOW:=Lib.hid (show OW w B gp a own X v0 (i + 1) (.slice A3 nl c3) VV from by
       have hal:∀ k,Al ((Be X i).BP (i + 1) { (X.pn (i + 1)).e with out:=[] }) a gp own k → k < w.heap.size:=fun k hk => (JL (X:=X) (m:=k + 1) ⟨(BR X i).2.1,(BR X i).2.2.1⟩ (fun _ _ h => .inl h) k hk).elim (kU.out k) (fun h => by omega)
       refine ⟨?_,?_,WM.out.DT HI.out.kept (fun k hk => .inr hk),HB2.out.trans (HI.out.below.mono HB.out)⟩
       ·unfold Be
        rw [if_pos HX.out]
        exact HP2.out.kept HI.out.kept (fun k hk hs => by have:=hal k hk; omega)
       ·have hr:=HI.out.row
        rw [hall] at hr
        unfold DC
        rw [if_pos HX.out,yz.out]
        exact hr)
      go_wp2_with fail
      go_roundg (N - (i + 1))
      case measure => have:=HM.out; omega
      case rel => exact ⟨i + 1,rfl,by omega,by first | rfl | simp,HOW.out⟩
   ·have hlk2:(Be X i).at_ a ((i:Int) + 1) = none:=Ps.J4 (fun hh => hx ⟨by omega,by have:=hsm.2.2.1; omega,by have:=hsm.2.1; omega⟩)
    rw [hlk2] at hlk
    simp only [ptr,Option.isSome] at hlk
    have HX:=Lib.hid hx
    clear hx hsm hlk2
    go_wp2_with fail
    go_roundg (N - (i + 1))
    case measure => have:=HM.out; omega
    case rel =>
     refine ⟨i + 1,rfl,by omega,by first | rfl | simp,?_⟩
     have h:=HF.out
     refine ⟨?_,?_,h.kept,h.below⟩
     ·unfold Be
      rw [if_neg HX.out]
      exact h.at_
     ·have e:DC X (i + 1) = DC X i:=by
       show DC X i ++ _ = _
       rw [if_neg HX.out,List.append_nil]
      rw [e]
      exact h.row
  ·have hd:decide ((i:Int) < (N:Int)) = false:=by simp; omega
   have hie:i = N:=by have:=XT.out; omega
   go_wp2_with fail
   go_ret
   exact ⟨_,rfl,hie ▸ HF.out⟩
theorem BV.aT {w w':World} {B gp:Nat} {n:Int} {a:Ad} {own:Nat → Nat → Prop} {X:Ps} {v:Value} (h:BV w B gp n a own X v) {k:Nat} (hx:X.has k) {L:Lk} {o':Nat → Prop} (ho:∀ j,o' j → own (k + 1) j ∨ w.heap.size ≤ j ∧ j < w'.heap.size) (hk:Kept w w' (own (k + 1))) (hE:Lk.End w' B o' (a.ge k) L):BV w' B gp n a (fun i j => if i = k + 1 then o' j else own i j) (X.BP k L) v:=by
 have hlt:=h.lt
 have hsz:=hk.1
 have hold:∀ i,i ≠ k + 1 → ∀ j,own i j → (if i = k + 1 then o' j else own i j):=fun i hi j hj => by rw [if_neg hi]; exact hj
 refine ⟨Ai h.blk hk (fun hy => h.apart _ _ hy (.inl rfl)),h.map.kept hk (fun hy => h.apart _ _ hy (.inr (.inl rfl))),fun j hj => ?_,fun j hj => ?_,?_,?_,h.low,h.inj,fun i j hi hf => ?_,fun i j m hi hj => ?_,fun i j hi => ?_⟩
 ·have:=Ai (h.pk j hj) hk (fun hy => h.apart _ _ hy (.inr (.inr ⟨j,hj,rfl⟩)))
  by_cases hjk:j = k
  ·subst hjk; unfold Ps.BP; rw [Ps.CU]; exact this
  ·unfold Ps.BP; rw [Ps.EL X hjk]; exact this
 ·by_cases hjk:j = k
  ·subst hjk
   unfold Ps.BP
   rw [Ps.CU]
   exact hE.mono (fun i hi => by rw [if_pos rfl]; exact hi)
  ·unfold Ps.BP
   rw [Ps.EL X hjk]
   exact ((h.e j hj).kept hk (fun i hi hy => by have:=h.Dn (j + 1) (k + 1) i hi hy; omega)).mono (hold _ (by omega))
 ·exact Kd.Az (Kd.BI h.ev hk (fun i hi hy => by have:=h.Dn 0 (k + 1) i hi hy; omega)) (hold _ (by omega))
 ·have h1:=hx.1
  exact (h.ch.kept hk (fun i hi hy => by have:=h.Dn 1 (k + 1) i hi hy; omega)).mono (hold _ (by omega))
 ·by_cases hik:i = k + 1
  ·rw [if_pos hik] at hi
   rcases ho j hi with hj | hj
   ·exact h.apart _ j hj hf
   ·have:=h.Nc j hf; omega
  ·rw [if_neg hik] at hi; exact h.apart i j hi hf
 ·by_cases hik:i = k + 1 <;> by_cases hjk:j = k + 1
  ·omega
  ·rw [if_pos hik] at hi; rw [if_neg hjk] at hj
   rcases ho m hi with hm | hm
   ·have:=h.Dn _ _ m hm hj; omega
   ·have:=hlt j m hj; omega
  ·rw [if_neg hik] at hi; rw [if_pos hjk] at hj
   rcases ho m hj with hm | hm
   ·have:=h.Dn _ _ m hi hm; omega
   ·have:=hlt i m hi; omega
  ·rw [if_neg hik] at hi; rw [if_neg hjk] at hj; exact h.Dn i j m hi hj
 ·by_cases hik:i = k + 1
  ·rw [if_pos hik] at hi
   rcases ho j hi with hj | hj
   ·have:=hlt _ j hj; omega
   ·exact hj.2
  ·rw [if_neg hik] at hi; have:=hlt i j hi; omega
def EM (X:Ps) (k:Nat) (b:Bool):Ps:=if b = true then X.set k { X.pn k with quiet:=0 } else X
def Gi (X:Ps) (k:Nat) (b:Bool):Ps:=if b = true then EO X k false else X
def Ul (X:Ps) (k:Nat) (b:Bool):Ps:=if b = true then ((EO X k true).set k { (EO X k true).pn k with quiet:=0 }).set k { ((EO X k true).set k { (EO X k true).pn k with quiet:=0 }).pn k with echo:=0 } else X
def Iu (X:Ps) (k:Nat) (b:Bool) (st:Int):Ps:=if b = true then X.set k { X.pn k with echo:=st } else X
def EG (X:Ps) (k:Nat) (AL:Int) (p:BJ):Ps :=
 Iu (Ul (Gi (EM (X.BP k (BM (X.pn k).e AL p).1) k (BM (X.pn k).e AL p).2.heard) k (BM (X.pn k).e AL p).2.down) k (BM (X.pn k).e AL p).2.up) k ((BM (X.pn k).e AL p).2.heard && p.kind == 4) p.stamp
end Go.Proofs.Ytnkkgofpifhoeaa.Pe
end
section
namespace Go.Proofs.Ytnkkgofpifhoeaa.Pe
open Go.RowKit Go.Proofs.Ytnkkgofpifhoeaa.Base Go.Proofs.Ytnkkgofpifhoeaa.Steps Go.Proofs.Ytnkkgofpifhoeaa.Lk Go.Proofs.YtnkkgofpifhoeaaW.PrintWords
def upd (own:Nat → Nat → Prop) (c:Nat) (o':Nat → Prop):Nat → Nat → Prop:=fun i j => if i = c then o' j else own i j
structure T0 (w2 W:World) (B gp:Nat) (n:Int) (a:Ad) (own:Nat → Nat → Prop) (X:Ps) (v:Value) (k:Nat) (L:Lk) (vb:Value) (body:List Int) (o' okb:Nat → Prop) (wz:World):Prop where
 at_:BV wz B gp n a (upd own (k + 1) o') (X.BP k L) v
 aU:∀ j,o' j → own (k + 1) j ∨ W.heap.size ≤ j
 row:(Kd.int .u8).R 5 wz B okb vb body
 far:∀ j,okb j → W.heap.size ≤ j ∧ ¬ o' j
 kept:Kept w2 wz (own (k + 1))
 below:Below B w2 wz
 ge:w2.heap.size ≤ W.heap.size
structure TV (w2:World) (B gp:Nat) (n:Int) (a:Ad) (own:Nat → Nat → Prop) (X:Ps) (v:Value) (k:Nat) (L:Lk) (vb:Value) (body:List Int) (g7:Nat) (Um:Array Value) (o' okb:Nat → Prop) (wz:World):Prop where
 at_:BV wz B gp n a (upd own (k + 1) o') (X.BP k L) v
 aU:∀ j,o' j → own (k + 1) j ∨ w2.heap.size ≤ j
 row:(Kd.int .u8).R 5 wz B okb vb body
 far:∀ j,okb j → w2.heap.size ≤ j ∧ ¬ o' j ∧ j ≠ g7
 t7:wz.heap[g7]? = some (.cells Um 56 (0,0))
 n7:w2.heap.size ≤ g7 ∧ ¬ o' g7
 kept:Kept w2 wz (own (k + 1))
 below:Below B w2 wz
section
variable {w2 W w7 w8:World} {B gp:Nat} {n:Int} {a:Ad} {own:Nat → Nat → Prop} {X:Ps} {v:Value} {k g7:Nat} {L:Lk} {vb:Value} {body:List Int} {o' okb:Nat → Prop}
theorem T0.of (h:BV w2 B gp n a own X v) (hx:X.has k) (hW:Below w2.heap.size w2 W) {hd up dn:Bool} {e:Ending} (hT:Ei W B (own (k + 1)) (a.ge k) L hd up dn body e w7) :
  ∃ A c,e = .returned (.tuple #[.agg #[.bool hd,.bool up,.bool dn,.slice A body.length c],.int .i64 0]) ∧ ∃ o' okb,T0 w2 W B gp n a own X v k L (.slice A body.length c) body o' okb w7:=by
 obtain ⟨vb,okb,he,hR,hk,hE,hK,hb⟩:=hT
 obtain ⟨A,c,hv⟩:=Kd.Am hR
 subst hv
 refine ⟨A,c,he,_,okb,(h.sub hW).aT hx (o':=fun j => own (k + 1) j ∨ (W.heap.size ≤ j ∧ j < w7.heap.size ∧ ¬ okb j)) (fun j hj => hj.imp_right (fun hh => ⟨hh.1,hh.2.1⟩)) hK hE,fun j hj => hj.imp_right (fun hh => hh.1),hR,fun j hj => ⟨(hk j hj).1,fun hh => ?_⟩,(Kept.of_below hW _).DT hK (fun j hj => .inl hj),(hW.mono h.hB).trans hb,hW.size⟩
 rcases hh with hh | hh
 ·have h1:=h.lt _ j hh; have h2:=(hk j hj).1; have h3:=hW.size; omega
 ·exact hh.2.2 hj
theorem T0.alloc {Um:Array Value} (h:T0 w2 W B gp n a own X v k L vb body o' okb w7) (hg:w7.heap.size ≤ g7) (hbx:w8.heap[g7]? = some (.cells Um 56 (0,0))) (hb:Below w7.heap.size w7 w8):TV w2 B gp n a own X v k L vb body g7 Um o' (fun j => okb j ∧ j < w7.heap.size) w8:=by
 have hz:=h.kept.1
 have hok:∀ j,o' j → j < w7.heap.size:=fun j hj => h.at_.lt (k + 1) j (by unfold upd; rw [if_pos rfl]; exact hj)
 refine ⟨h.at_.sub hb,fun j hj => (h.aU j hj).imp_right (fun hh => Nat.le_trans h.ge hh),Kd.Az (Kd.Eb (Kd.CW h.row) hb) (fun _ hj => ⟨hj.1,hj.2.2.1⟩),fun j hj => ⟨Nat.le_trans h.ge (h.far j hj.1).1,(h.far j hj.1).2,by omega⟩,hbx,⟨by omega,fun hh => by have:=hok _ hh; omega⟩,h.kept.below hb,h.below.trans (hb.mono h.at_.hB)⟩
theorem T0.ahead {Um:Array Value} (h:T0 w2 W B gp n a own X v k L vb body o' okb w7) (hg:w2.heap.size ≤ g7) (hg2:g7 < W.heap.size) (hno:¬ own (k + 1) g7) (hbx:w7.heap[g7]? = some (.cells Um 56 (0,0))):TV w2 B gp n a own X v k L vb body g7 Um o' okb w7 :=
 ⟨h.at_,fun j hj => (h.aU j hj).imp_right (fun hh => Nat.le_trans h.ge hh),h.row,fun j hj => ⟨Nat.le_trans h.ge (h.far j hj).1,(h.far j hj).2,by have:=(h.far j hj).1; omega⟩,hbx,⟨hg,fun hh => (h.aU _ hh).elim hno (fun h1 => by omega)⟩,h.kept,h.below⟩
end
end Go.Proofs.Ytnkkgofpifhoeaa.Pe
end
section
namespace Go.Proofs.Ytnkkgofpifhoeaa.Lk
open Go.RowKit Go.Proofs.Ytnkkgofpifhoeaa.Pk Go.Proofs.Ytnkkgofpifhoeaa.OG
structure Lk.Fine (L:Lk):Prop where
 ok:L.Ok
 own:0 < L.own
 good:∀ p ∈ L.out,p.Good
 tok:L.phase ≠ 0 → 0 < L.token
 peer:L.known = true → 0 < L.AL ∧ 0 < L.yours
 up:L.phase = 2 → L.known = true
 full:∀ r ∈ L.queue,0 < r.length
 II:L.phase ≠ 2 → L.queue = []
theorem YZ:(Hr 0 && Hr 0) = true:=by decide
theorem PN {p:BJ} (h:p.Good):0 < p.mine ∧ (p.kind = 2 → 0 < p.body.length):=by
 have hc:=h.check
 have hm:=h.YM.mine
 unfold Ah at hc
 split at hc
 ·rename_i hk
  split at hc
  ·rename_i hg
   have:p.mine ≠ 0:=by
    unfold good1 at hg
    simp only [Bool.and_eq_true,decide_eq_true_eq] at hg
    exact hg.1.1
   exact ⟨by omega,fun h => by omega⟩
  ·exact absurd hc (by decide)
 split at hc
 ·split at hc
  ·exact absurd hc (by decide)
  ·split at hc
   ·rename_i hg
    unfold JF at hg
    simp only [Bool.and_eq_true,decide_eq_true_eq] at hg
    have:=hg.1.1
    exact ⟨by omega,fun _ => hg.1.2.2.2.1⟩
   ·exact absurd hc (by decide)
 split at hc
 ·split at hc
  ·rename_i hg
   unfold JG at hg
   simp only [Bool.and_eq_true,decide_eq_true_eq] at hg
   have:=hg.1.1
   exact ⟨by omega,fun h => by omega⟩
  ·exact absurd hc (by decide)
 split at hc
 ·split at hc
  ·rename_i hg
   unfold IZ at hg
   simp only [Bool.and_eq_true,decide_eq_true_eq] at hg
   have:=hg.2.1
   exact ⟨by omega,fun h => by omega⟩
  ·exact absurd hc (by decide)
 ·exact absurd hc (by decide)
theorem PO {L:Lk} (h:L.Ok) {k s a:Int} {b:List Int} (hs:0 ≤ s ∧ s < 4294967296) (ha:0 ≤ a ∧ a < 4294967296) {x y:Int} (hx:0 ≤ x ∧ x < 4294967296) (hy:0 ≤ y ∧ y < 4294967296):(⟨k,L.token,x,y,s,a,0,0,0,0,b⟩:BJ).Jw :=
 ⟨h.token,hx,hy,hs,ha,show (0:Nat) < 18446744073709551616 by decide,show (0:Nat) < 18446744073709551616 by decide⟩
theorem Ea {L:Lk} (h:L.Fine) (hp:L.phase ≠ 0):(CY L).Good:=by
 have ht:=h.tok hp
 have hb:=h.ok.AL
 have hy:=h.ok.yours
 refine ⟨PO h.ok (by show 0 ≤ (if L.phase = 2 then (1:Int) else 0) ∧ _; split <;> decide) (by decide) (by show 0 ≤ (if L.known = true then L.AL else 0) ∧ _; split <;> omega) (by show 0 ≤ (if L.known = true then L.yours else 0) ∧ _; split <;> omega),?_,Nat.zero_le _⟩
 show Ah 1 L.token (if L.known = true then L.AL else 0) (if L.known = true then L.yours else 0) (if L.phase = 2 then (1:Int) else 0) 0 0 0 0 0 0 = 0
 unfold Ah
 rw [if_pos rfl]
 refine if_pos ?_
 unfold good1
 rw [Bool.and_eq_true]
 refine ⟨decide_eq_true ⟨by omega,by split <;> decide,?_,rfl,rfl,rfl,rfl⟩,YZ⟩
 split
 ·rename_i hk
  have:=h.peer hk
  exact ⟨fun _ => this.2,fun _ => this.1⟩
 ·exact ⟨fun h => h,fun h => h⟩
theorem Kz {L:Lk} (h:L.Fine) (hp:L.phase = 2) (i:Int) (hi0:0 ≤ i) (hi:i < L.queue.length):(Gw L i).Good:=by
 have ht:=h.tok (by omega)
 have hk:=h.peer (h.up hp)
 have hr:L.queue.getD i.toNat [] ∈ L.queue:=by
  rw [List.getD_eq_getElem?_getD,List.getElem?_eq_getElem (by omega)]
  exact List.getElem_mem _
 have h1:=h.ok.rows _ hr
 have h2:=h.full _ hr
 refine ⟨PO h.ok (wrap32 _) h.ok.expected h.ok.AL h.ok.yours,?_,h1⟩
 show Ah 2 L.token L.AL L.yours _ L.expected 0 0 0 0 (L.queue.getD i.toNat []).length = 0
 unfold Ah
 rw [if_neg (by decide),if_pos rfl,if_neg (by omega)]
 refine if_pos ?_
 unfold JF
 rw [Bool.and_eq_true]
 exact ⟨decide_eq_true ⟨by omega,hk.1,hk.2,h2,rfl,rfl⟩,YZ⟩
theorem Un {L:Lk} (h:L.Fine) (hp:L.phase = 2):(MC L).Good:=by
 have ht:=h.tok (by omega)
 have hk:=h.peer (h.up hp)
 refine ⟨PO h.ok (by decide) h.ok.expected h.ok.AL h.ok.yours,?_,Nat.zero_le _⟩
 show Ah 3 L.token L.AL L.yours 0 L.expected 0 0 0 0 0 = 0
 unfold Ah
 rw [if_neg (by decide),if_neg (by decide),if_pos rfl]
 refine if_pos ?_
 unfold JG
 rw [Bool.and_eq_true]
 exact ⟨decide_eq_true ⟨by omega,hk.1,hk.2,rfl,rfl,rfl,rfl⟩,YZ⟩
theorem Uo {own:Int} (ho:0 < own ∧ own < 4294967296):(newL own).Fine :=
 ⟨QL own ho,ho.1,fun p hp => (by cases hp),fun h => absurd rfl h,fun h => (by cases h),fun h => (by cases h),fun r hr => (by cases hr),fun _ => rfl⟩
theorem DY {L:Lk} (h:L.Fine) {p:BJ} (hp:p.Good):(emit_ L p).Fine:=by
 have hok:=Lu h.ok p
 unfold emit_ at hok ⊢
 split
 ·rename_i hc
  rw [if_pos hc] at hok
  refine ⟨hok,h.own,fun q hq => ?_,h.tok,h.peer,h.up,h.full,h.II⟩
  rcases List.mem_append.1 hq with hq | hq
  ·exact h.good q hq
  ·rw [List.mem_singleton.1 hq]; exact hp
 ·exact h
theorem PR (L:Lk) (p:BJ):(emit_ L p).phase = L.phase:=by unfold emit_; split <;> rfl
theorem J7 {L:Lk} (h:L.Fine) (ht:L.token < 4294967295):(EK L).Fine:=by
 have:=h.ok.token
 exact ⟨Jt h.ok ht,h.own,h.good,fun _ => by show 0 < L.token + 1; omega,fun x => (by cases x),fun x => absurd (show (1:Int) = 2 from x) (by decide),fun r hr => (by cases hr),fun _ => rfl⟩
theorem LC {L:Lk} (h:L.Fine):(ET L).Fine:=by
 have:=h.ok.token
 unfold ET
 split
 ·rename_i hc
  have hb:=J7 h (by omega)
  exact DY hb (Ea hb (show (1:Int) ≠ 0 by decide))
 ·exact h
theorem LD {L:Lk} (h:L.Fine):(FV L).Fine :=
 ⟨L6 h.ok,h.own,h.good,fun x => absurd rfl x,fun x => (by cases x),fun x => absurd (show (0:Int) = 2 from x) (by decide),fun r hr => (by cases hr),fun _ => rfl⟩
theorem Ur {L:Lk} (h:L.Fine):(WN L).Fine:=⟨WO h.ok,h.own,fun p hp => (by cases hp),h.tok,h.peer,h.up,h.full,h.II⟩
theorem Ri {L:Lk} (h:L.Fine) (hd:L.sent < L.queue.length) (h8:L.sent < 8) (d:Int) (hdd:0 ≤ d ∧ d ≤ 1000):({ L with idle:=d,sent:=L.sent + 1 }:Lk).Fine :=
 ⟨Je h.ok hd h8 d hdd,h.own,h.good,h.tok,h.peer,h.up,h.full,h.II⟩
theorem Nh {L:Lk} (h:L.Fine) (hd:L.sent < L.queue.length):L.phase = 2:=by
 have:=h.ok.sent
 by_cases hp:L.phase = 2
 ·exact hp
 ·rw [h.II hp] at hd; exact absurd hd (by simp; omega)
theorem MI {L:Lk} (h:L.Fine) (hd:L.sent < L.queue.length) (h8:L.sent < 8):(EU L).Fine:=by
 have hs:=h.ok.sent
 have hu:=Nh h hd
 have hf:=Ri h hd h8 (if L.sent = 0 then 0 else L.idle) (by have:=h.ok.idle; split <;> omega)
 exact DY hf (Kz h hu L.sent hs.1 hd)
theorem PS (n:Nat) {L:Lk} (h:L.Fine):(FW n L).Fine:=by
 induction n generalizing L with
 | zero => exact h
 | succ n ih =>
  unfold FW
  split
  ·rename_i hc; exact ih (MI h hc.1 hc.2)
  ·exact h
theorem Rj {L:Lk} (h:L.Fine):(BX L).Fine:=PS _ h
theorem GH {L:Lk} (h:L.Fine) {d:Int} (hd:0 ≤ d ∧ d ≤ 1000):(Dk L d).Fine:=⟨MF h.ok hd,h.own,h.good,h.tok,h.peer,h.up,h.full,h.II⟩
theorem PT {L:Lk} (h:L.Fine) (n:Nat) (hn:(n:Int) ≤ L.sent):(sends n L).Fine:=by
 have hs:=h.ok.sent
 induction n with
 | zero => exact h
 | succ n ih => exact DY (ih (by omega)) (Kz h (by
   by_cases hp:L.phase = 2
   ·exact hp
   ·have:=h.II hp; rw [this] at hs; simp at hs; omega) n (by omega) (by omega))
theorem Rk {L:Lk} (h:L.Fine):(IG L).Fine:=by
 have hi:=h.ok.idle
 have hs:=h.ok.sent
 unfold IG
 split
 ·exact h
 split
 ·exact GH h (by decide)
 split
 ·exact GH h (by omega)
 split
 ·rename_i h0 _ _ _
  exact DY (GH h (by decide)) (Ea (GH h (by decide)) h0)
 ·exact PT (GH h (by decide)) _ (by show (L.sent.toNat:Int) ≤ L.sent; omega)
theorem LG {L:Lk} (h:L.Fine) (hq:L.queue = []) {b:Int} (hb:0 < b ∧ b < 4294967296) {p:BJ} (hp:p.Good):(JK L b p).Fine :=
 ⟨Jh h.ok (by omega) hp.YM.mine true,h.own,h.good,h.tok,fun _ => ⟨hb.1,(PN hp).1⟩,fun _ => rfl,h.full,h.II⟩
theorem Rl {L:Lk} (h:L.Fine):(BD L).Fine:=⟨Jg h.ok,h.own,h.good,h.tok,h.peer,h.up,h.full,h.II⟩
theorem Us {L:Lk} (h:L.Fine) {k:Nat} (hk:(k:Int) ≤ L.sent):(Cj L k).Fine :=
 ⟨JC h.ok hk,h.own,h.good,h.tok,h.peer,h.up,fun r hr => h.full r (List.mem_of_mem_drop hr),fun hp => by show L.queue.drop k = []; rw [h.II hp]; simp⟩
theorem Nk (n:Nat) (L:Lk):(FW n L).phase = L.phase:=by
 induction n generalizing L with
 | zero => rfl
 | succ n ih =>
  unfold FW
  split
  ·rw [ih]; exact PR _ _
  ·rfl
theorem Nl {L:Lk} (h:L.Fine) (p:BJ):(MV L p).Fine:=by unfold MV; split; exact Rl h; exact h
theorem Ut (L:Lk) (p:BJ):(MV L p).sent = L.sent:=by unfold MV; split <;> rfl
theorem LH (L:Lk) (p:BJ):(MV L p).phase = L.phase:=by unfold MV; split <;> rfl
theorem Rn (L:Lk) (p:BJ):(UU L p).phase = L.phase:=by
 unfold UU
 split
 ·exact (Nk _ _).trans (LH L p)
 ·exact LH L p
theorem J8 {L:Lk} (h:L.Fine) (p:BJ):(UU L p).Fine:=by
 unfold UU
 split
 ·rename_i hc; exact Rj (Us (Nl h p) (by rw [Ut]; exact hc.2))
 ·exact Nl h p
theorem Ro {L:Lk} (h:L.Fine) {b:Int} (hb:0 < b ∧ b < 4294967296) {p:BJ} (hp:p.Good):(BM L b p).1.Fine:=by
 have ht:=h.ok.token
 have Ci:=h.ok.phase
 unfold BM
 split
 ·exact h
 rename_i h0
 split
 ·split
  ·rename_i h1
   have hq:=h.II (by omega)
   have hf:=LG h hq hb hp
   split
   ·have hf2:({ JK L b p with phase:=2 }:Lk).Fine:=⟨NM hf.ok (by decide),hf.own,hf.good,fun _ => hf.tok (by show L.phase ≠ 0; omega),hf.peer,fun _ => rfl,hf.full,fun x => absurd rfl x⟩
    exact DY hf2 (Ea hf2 (show (2:Int) ≠ 0 by decide))
   ·exact DY hf (Ea hf (show L.phase ≠ 0 by omega))
  ·split
   ·show (if p.seq = 0 then emit_ L (CY L) else L).Fine
    split
    ·exact DY h (Ea h (fun x => h0 (.inl x)))
    ·exact h
   ·split
    ·exact LD h
    ·rename_i hmx
     have hf:=LG (J7 h (by omega)) rfl hb hp
     exact DY hf (Ea hf (show (1:Int) ≠ 0 by decide))
 ·split
  ·rename_i hu
   show (XM L p).Fine
   unfold XM
   split
   ·exact DY (J8 h p) (Un (J8 h p) ((Rn L p).trans hu.1))
   ·exact J8 h p
  ·exact h
end Go.Proofs.Ytnkkgofpifhoeaa.Lk
end
section
namespace Go.Proofs.Ytnkkgofpifhoeaa.Rf
open Go.RowKit Go.Proofs.Ytnkkgofpifhoeaa.Base Go.Proofs.Ytnkkgofpifhoeaa.Steps Go.Proofs.Ytnkkgofpifhoeaa.Lk Go.Proofs.YtnkkgofpifhoeaaW.PrintWords Go.Proofs.YtnkkgofpifhoeaaW.PrintLast
section
variable {P:Program} {ops:Array Oper} {md:Region.Mode} {Q:Exit → Act → World → Prop} {S:World → Prop} {ds:List Nat}
theorem row_step {oi:Oper} {a:Act} {w:World} {K:Act → World → Prop} (hw:Region.wanted oi (yielded ops a.tmps) = true) (hN:oi.dst = none) (ty:TypeId) (x y:Operand) (ho:oi.op = .store ty x y) (g:Nat) (cells:Array Value) (hx:a.eval x = .pointer (some ⟨g,0,none⟩)) (hy:a.eval y = .agg cells)
  (t:TypeId) (old:Array Value) (hg:w.heap[g]? = some (.cells old t (0,0))) (hi:(P.info? ty).map (·.size) = some cells.size) (hold:old.size = cells.size) (h1:cells.all (·.oneCell') = true)
  (k:∀ w1,w1.heap[g]? = some (.cells cells t (0,0)) → Steps.At g w w1 → K a w1):if Region.wanted oi (yielded ops a.tmps) = true then Oper.wp P oi a w K Q else K (a.put none undef) w:=by
 rw [if_pos hw]
 refine wp_store_row ty x y ho g cells hx hy t old hg hi hold h1 ?_
 rw [hN]
 exact k _ (Jq hg) (Kq g w cells)
end
end Go.Proofs.Ytnkkgofpifhoeaa.Rf
end
section
namespace Go.Proofs.Ytnkkgofpifhoeaa.Lk
open Go.RowKit Go.Proofs.Ytnkkgofpifhoeaa.Base Go.Proofs.Ytnkkgofpifhoeaa.Steps Go.Proofs.YtnkkgofpifhoeaaW.PrintWords Go.Proofs.YtnkkgofpifhoeaaW.PrintLast
theorem Ya (W:World):(Kd.int .u8).C (W.alloc (.cells #[.int .u8 120] 5 (1,2))) (some ⟨W.heap.size,0,none⟩) 1 [120]:=by
 refine ⟨rfl,by decide,fun _ => ⟨_,rfl,fun j p hj => ⟨[.int .u8 p],rfl,rfl,fun i u hu => ?_⟩⟩⟩
 have hj0:j = 0:=by
  by_cases h:j = 0
  ·exact h
  ·rw [List.getElem?_eq_none (by simp; omega)] at hj; cases hj
 subst hj0
 have hi0:i = 0:=by
  by_cases h:i = 0
  ·exact h
  ·rw [List.getElem?_eq_none (by simp; omega)] at hu; cases hu
 subst hi0
 have hp:(120:Int) = p:=Option.some.inj hj
 subst hp
 have hu':Value.int .u8 120 = u:=Option.some.inj hu
 subst hu'
 exact World.cell?_alloc_mark W #[.int .u8 120] 5 (1,2) 0
end Go.Proofs.Ytnkkgofpifhoeaa.Lk
end
section
namespace Go.Proofs.Ytnkkgofpifhoeaa.Rf
open Go.RowKit Go.Proofs.Ytnkkgofpifhoeaa.Base Go.Proofs.Ytnkkgofpifhoeaa.Steps Go.Proofs.Ytnkkgofpifhoeaa.Lk Go.Proofs.YtnkkgofpifhoeaaW.PrintWords Go.Proofs.YtnkkgofpifhoeaaW.PrintLast
theorem Rq {w:World} {b:Nat} {c:Array Value} {t:TypeId} (hb:w.heap[b]? = some (.cells c t (0,0))) {o n:Nat} (hl:o + n ≤ c.size):w.there b o n:=fun j hj => ⟨by
 rw [AA hb (o + j),Array.getElem?_eq_getElem (show o + j < c.size by omega)]; rfl,AB hb (o + j)⟩
section
variable {P:Program} {ops:Array Oper} {Q:Exit → Act → World → Prop} {rest:List Oper} {o:Oper} {a:Act} {w W:World} {bs:List (Nat × Nat)} {cs:List (Array Value)}
theorem MJ (ty:TypeId) (ad:Addr) (v:Value) (h:v.cells = #[v]):storeVar ty ad v = storeVar ty ad (.agg #[v]):=by
 unfold storeVar
 rw [h]
 rfl
theorem MK {o:Oper} {a:Act} {w:World} {K:Act → World → Prop} {Q:Exit → Act → World → Prop} (ty:TypeId) (x y:Operand) (ho:o.op = .store ty x y) (b j:Nat) (v:Value) (hx:a.eval x = .pointer (some ⟨b,j,none⟩)) (hy:a.eval y = v) (hv:v.cells = #[v]) (ht:w.there b j 1) (hi:(P.info? ty).map (·.size) = some 1) (h1:v.oneCell' = true) (h:K (a.put o.dst undef) (w.setCell ⟨b,j,none⟩ v)):o.wp P a w K Q:=by
 have hr:=run_storeVar_mid (P:=P) w b j ty #[v] ht hi (by simp [h1])
 rw [← MJ ty _ v hv] at hr
 unfold Oper.wp execOp
 simp only [ho,hx,hy,Instr.storeAt,Instr.sureAddr,Sem.run_bind,Sem.run_pure,Result.andThen_ok,hr]
 exact h
end
end Go.Proofs.Ytnkkgofpifhoeaa.Rf
end
section
namespace Go.Proofs.Ytnkkgofpifhoeaa.Ch
open Go.RowKit Go.Proofs.Ytnkkgofpifhoeaa.OG Go.Proofs.Ytnkkgofpifhoeaa.Base Go.Proofs.Ytnkkgofpifhoeaa.Num Go.Proofs.Ytnkkgofpifhoeaa.Steps Go.Proofs.YtnkkgofpifhoeaaW.PrintWords Go.Proofs.YtnkkgofpifhoeaaW.PrintLast
def fr (op:BinOp) (w:World) (x y:Nat):Nat:=match floatBits op .f64 x y with | some r => r | none => Question.cut (.nanBits .f64 x y) (w.tape w.drawn (.nanBits .f64 x y))
def fn (op:BinOp) (x y:Nat):Nat:=match floatBits op .f64 x y with | some _ => 0 | none => 1
theorem Yb (x y t:Nat):Question.cut (.nanBits .f64 x y) t < 18446744073709551616:=by
 show (t % 2) * 2 ^ 63 + 0x7ff0000000000000 + 1 + (t / 2) % (2 ^ 52 - 1) < 18446744073709551616
 exact oJ
theorem Uu (op:BinOp) (w:World) (x y:Nat):fr op w x y < 18446744073709551616:=by
 unfold fr
 split
 ·rename_i r h
  have:=floatBits_wf h
  simpa [Lit.wf] using this
 ·exact Yb _ _ _
section
variable {P:Program}
theorem Gz (op:BinOp) (hop:op = .add ∨ op = .sub ∨ op = .mul ∨ op = .quo) (w:World) (t:TypeId) (x y:Nat):(binOp op t (.float .f64 x) (.float .f64 y)).run P w = .ok (.float .f64 (fr op w x y)) (w.drewN (fn op x y)):=by
 unfold fr fn
 cases h:floatBits op .f64 x y with
 | some r => exact run_float_arith w op t .f64 x y r h
 | none =>
  have hf:(Question.nanBits .f64 x y).forced = false:=rfl
  unfold floatBits at h
  rcases hop with rfl | rfl | rfl | rfl <;> (simp only at h; simp [binOp,Op.floatArith,h,hf]; rfl)
theorem Uw (w:World) (t:TypeId) (x y u v:Nat):(binOp .sub t (.complex .f64 x y) (.complex .f64 u v)).run P w = .ok (.complex .f64 (fr .sub w x u) (fr .sub (w.drewN (fn .sub x u)) y v)) ((w.drewN (fn .sub x u)).drewN (fn .sub y v)):=by
 have h1:=Gz (P:=P) .sub (by simp) w t x u
 have h2:=Gz (P:=P) .sub (by simp) (w.drewN (fn .sub x u)) t y v
 simp [binOp] at h1 h2
 simp [binOp,Op.complexOp,Op.Complex.arith,h1,h2]
end
theorem PU (x y u v:Nat) (w:World):Calls Try.prog 103 #[.complex .f64 x y,.complex .f64 u v] w fun e w' => ∃ s n,e = .returned (.float .f64 s) ∧ s < 18446744073709551616 ∧ Below w.heap.size w w' ∧ w' = w.drewN n:=by
 have k1:=fun W => Uw (P:=Try.prog) W 25 x y u v
 have k3:=fun W p => Gz (P:=Try.prog) .mul (by simp) W 38 p p
 have k5:=fun W m n => Gz (P:=Try.prog) .add (by simp) W 38 m n
 go_enter Try.func103,Try.ntmps103
 go_wp2
 go_ret
 exact ⟨_,_,rfl,Uu _ _ _ _,DN (Below.refl _ _) _,rfl⟩
def cl (p:Nat):Nat:=if Hr p then 0 else p
theorem clean_any (p:Nat):kR p (cl p):=fun w => by
 unfold cl
 cases h:Hr p
 ·have he:(FloatKind.f64.format.order p 0 == some Ordering.eq) = false:=by rw [D6,h]
  go_enter Try.func126,Try.ntmps126
  go_wp2
  go_ret
  exact ⟨rfl,rfl⟩
 ·have he:(FloatKind.f64.format.order p 0 == some Ordering.eq) = true:=by rw [D6,h]
  go_enter Try.func126,Try.ntmps126
  go_wp2
  go_ret
  exact ⟨rfl,rfl⟩
theorem Ux {p q:Nat} (hp:fin p = true) (hq:fin q = true):Bc (cl p) (cl q) = true:=by
 have h:∀ x,fin x = true → fin (cl x) = true ∧ LU (cl x) = false:=fun x hx => by
  unfold cl
  cases h:Hr x
  ·refine ⟨hx,?_⟩
   unfold LU
   rw [beq_eq_false_iff_ne]
   intro e
   rw [if_neg (by simp)] at e
   subst e
   exact absurd h (by decide)
  ·exact ⟨rfl,rfl⟩
 have h1:=h p hp
 have h2:=h q hq
 unfold Bc
 rw [h1.1,h1.2,h2.1,h2.2]
 rfl
theorem XU {p:Nat} (h:p < 18446744073709551616):cl p < 18446744073709551616:=by
 unfold cl
 split
 ·decide
 ·exact h
theorem Yc (w:World):(Instr.build 185 #[]).run Try.prog w = .ok (.agg #[.int .i64 0,.int .i64 0,.complex .f64 0 0,.string ⟨#[]⟩,.int .i64 0,.int .u32 0,.int .u64 0,.slice none 0 0,.slice none 0 0]) w:=by kernel_rfl
theorem Uy (p q:Nat) (h:fin p = false ∨ fin p = true ∧ fin q = false) (w:World) :
  Calls Try.prog 105 #[.complex .f64 p q] w fun e w' => e = .returned (.tuple #[.agg TZ,.int .i64 12]) ∧ Below w.heap.size w w':=by
 have hbz:=Yc
 have hal:=Ud
 have H:=Lib.hid h
 clear h
 go_enter Try.func105,Try.ntmps105
 go_wp2_with fail
 rcases H.out with h | ⟨h,h2⟩
 ·refine (G6 p h _).mono ?_
  rintro e w' ⟨rfl,n0,rfl⟩
  exact qJ
 ·refine (BZ p h _).mono ?_
  rintro e w' ⟨rfl,n0,rfl⟩
  go_wp2_with fail
  refine (G6 q h2 _).mono ?_
  rintro e w' ⟨rfl,n1,rfl⟩
  exact qJ
theorem Yd (p q:Nat) (hp:p < 18446744073709551616) (hq:q < 18446744073709551616) (w:World) :
  Calls Try.prog 105 #[.complex .f64 p q] w fun e w' => (∃ cp cq,e = .returned (.tuple #[.agg (NY cp cq),.int .i64 0]) ∧ Bc cp cq = true ∧ cp < 18446744073709551616 ∧ cq < 18446744073709551616 ∧ Below w.heap.size w w') ∨ (e = .returned (.tuple #[.agg TZ,.int .i64 12]) ∧ Below w.heap.size w w'):=by
 cases h1:fin p
 ·exact (Uy p q (.inl h1) w).mono fun e w' h => .inr h
 ·cases h2:fin q
  ·exact (Uy p q (.inr ⟨h1,h2⟩) w).mono fun e w' h => .inr h
  ·exact (aH p q (cl p) (cl q) h1 h2 (clean_any p) (clean_any q) w).mono fun e w' h => .inl ⟨_,_,h.1,Ux h1 h2,XU hp,XU hq,h.2⟩
theorem Rt (x y u v:Nat) (t:Int) (hx:x < 18446744073709551616) (hy:y < 18446744073709551616) (hpl:Bc x y = true) (w:World) :
  Calls Try.prog 70 #[.complex .f64 x y,.complex .f64 u v,.int .i64 t] w fun e w' => ∃ cp cq,e = .returned (.complex .f64 cp cq) ∧ Bc cp cq = true ∧ cp < 18446744073709551616 ∧ cq < 18446744073709551616 ∧ Below w.heap.size w w':=by
 have KG:=Lib.hid hpl
 have HX:=Lib.hid hx
 have HY:=Lib.hid hy
 have hal:=Ud
 have hcv:=QY t
 have q0:=fun W => Uw (P:=Try.prog) W 25 x y u v
 have q1:=fun W p q => Gz (P:=Try.prog) .mul (by simp) W 38 p q
 have q2:=fun W p q => Gz (P:=Try.prog) .sub (by simp) W 38 p q
 have q3:=fun W p q => Gz (P:=Try.prog) .add (by simp) W 38 p q
 have q5:=fun W p q => Gz (P:=Try.prog) .quo (by simp) W 38 p q
 clear hpl hx hy
 go_enter Try.func70,Try.ntmps70
 go_wp2_with fail
 refine (PU x y u v _).mono ?_
 rintro e w' ⟨s,n,rfl,hs,-,rfl⟩
 by_cases h0:Hr s = true
 ·have he:(FloatKind.f64.format.order s 0 == some Ordering.eq) = true:=by rw [D6,h0]
  go_wp2_with fail
  go_ret
  exact ⟨_,_,rfl,KG.out,HX.out,HY.out,DN (Below.refl _ _) _⟩
 ·have he:(FloatKind.f64.format.order s 0 == some Ordering.eq) = false:=by rw [D6]; simpa using h0
  go_wp2_with fail
  refine (Yd _ _ (Uu _ _ _ _) (Uu _ _ _ _) _).mono ?_
  rintro e w1 (⟨cp,cq,rfl,hpl,hp,hq,hb⟩ | ⟨rfl,hb⟩)
  ·have HW:=Lib.hid ((show Below w.heap.size w (w.drewN _) from DN (Below.refl _ _) _).trans hb)
   have Ru:=Lib.hid (And.intro hpl (And.intro hp hq))
   clear hb hpl hp hq q0 q1 q2 q3 q5
   go_wp2_with (((with_reducible refine gate_ (.store 185 (.tmp 11) (.tmp 53)) rfl ?_); (refine Ae rfl rfl 185 (.tmp 11) (.tmp 53) rfl w1.heap.size (NY cp cq) rfl rfl 185 _ (heap_alloc_new w1 _) (by kernel_rfl) rfl (by kernel_rfl) ?_); (intro w5 hb5 CQ); (have hc2:w5.cell? ⟨w1.heap.size,2,none⟩ = some (.complex .f64 cp cq):=(AA hb5 2).trans rfl); (have ku:=Lib.hid (HW.out.trans ((CQ.below ((Below.refl w1.heap.size w1).alloc (Nat.le_refl _) _) (Nat.le_refl _)).mono HW.out.size)); (clear hb5 CQ))))
   go_ret
   exact ⟨_,_,rfl,Ru.out.1,Ru.out.2.1,Ru.out.2.2,ku.out⟩
  ·have HW:=Lib.hid ((show Below w.heap.size w (w.drewN _) from DN (Below.refl _ _) _).trans hb)
   clear hb q0 q1 q2 q3 q5
   go_wp2_with (((with_reducible refine gate_ (.store 185 (.tmp 11) (.tmp 53)) rfl ?_); (refine Ae rfl rfl 185 (.tmp 11) (.tmp 53) rfl w1.heap.size TZ rfl rfl 185 _ (heap_alloc_new w1 _) (by kernel_rfl) rfl (by kernel_rfl) ?_); (intro w5 hb5 CQ); (have hc2:w5.cell? ⟨w1.heap.size,2,none⟩ = some (.complex .f64 0 0):=(AA hb5 2).trans rfl); (have ku:=Lib.hid (HW.out.trans ((CQ.below ((Below.refl w1.heap.size w1).alloc (Nat.le_refl _) _) (Nat.le_refl _)).mono HW.out.size)); (clear hb5 CQ))))
   go_ret
   exact ⟨_,_,rfl,KG.out,HX.out,HY.out,ku.out⟩
theorem Np {w:World} {r clk:Nat} {es:Array MapEntry} (k:Int) (v:Value) (hb:w.heap[r]? = some (.map es clk)) (hks:∀ x ∈ es.toList,MapKept.IsKey (.int .i64) x.key) :
  ∃ w1 es' PV,(Instr.mapUpdate 125 (.map (some r)) (.int .i64 k) v).run Try.prog w = .ok () w1 ∧ w1.heap[r]? = some (.map es' PV) ∧ (∀ x ∈ es'.toList,MapKept.IsKey (.int .i64) x.key) ∧ At r w w1:=by
 rcases MapKept.findNow_spec (Eu k) es.toList 0 hks with ⟨h1,_⟩ | ⟨j,e,h1,h2,h3⟩
 ·obtain ⟨w1,g1,g2,g3⟩:=NZ w r clk es k v hb h1
  refine ⟨w1,_,_,g1,g2,fun x hx => ?_,g3⟩
  unfold KW at hx
  rw [Array.toList_push] at hx
  rcases List.mem_append.1 hx with hx | hx
  ·exact hks x hx
  ·rw [List.mem_singleton.1 hx]; exact Eu k
 ·obtain ⟨ek,ev,eb⟩:=e
  simp only at h3
  subst h3
  rw [Nat.zero_add] at h1
  obtain ⟨w1,g1,g2,g3⟩:=Na w r clk j es k v ev hb h1 ⟨eb,by rw [← Array.getElem?_toList]; exact h2⟩
  refine ⟨w1,_,_,g1,g2,fun x hx => ?_,g3⟩
  obtain ⟨n,hn⟩:=List.mem_iff_getElem?.1 hx
  rw [Array.getElem?_toList,Array.getElem?_modify] at hn
  split at hn
  ·rw [Option.map_eq_some_iff] at hn
   obtain ⟨y,hy,rfl⟩:=hn
   exact Eu k
  ·exact hks x (List.mem_iff_getElem?.2 ⟨n,by rw [Array.getElem?_toList]; exact hn⟩)
theorem Uz (B g r x y u v clk:Nat) (es:Array MapEntry) (node t:Int) (w:World) (hC:E8 w g r x y es clk) (hB:B ≤ w.heap.size) (hg:B ≤ g) (hr:B ≤ r) (hx:x < 18446744073709551616) (hy:y < 18446744073709551616) (hxy:Bc x y = true) (hks:∀ x ∈ es.toList,MapKept.IsKey (.int .i64) x.key)
  (hn1:1 ≤ node) (hn2:node ≤ 64) (hu:u < 18446744073709551616) (hv:v < 18446744073709551616) (hpl:Bc u v = true) (ht1:0 ≤ t) (ht2:t ≤ 1048576) :
  Calls Try.prog 23 #[.pointer (some ⟨g,0,none⟩),.int .i64 node,.complex .f64 u v,.int .i64 t] w fun e w' => e = .returned (.int .i64 0) ∧ (∃ es' PV cp cq,E8 w' g r cp cq es' PV ∧ Bc cp cq = true ∧ cp < 18446744073709551616 ∧ cq < 18446744073709551616 ∧ ∀ x ∈ es'.toList,MapKept.IsKey (.int .i64) x.key) ∧ Kept w w' (fun k => k = g ∨ k = r) ∧ Below B w w':=by
 have HC:=Lib.hid hC
 have KG:=Lib.hid hpl
 have O1:=Lib.hid hks
 have zC:=Lib.hid (Rt x y u v t hx hy hxy)
 clear hC hpl hks hx hy hxy
 go_enter Try.func23,Try.ntmps23
 go_wp2_with fail
 refine (NV u v hu hv _).mono ?_
 rintro e w1 ⟨rfl,hb⟩
 rw [KG.out]
 have X5:=Lib.hid (HC.out.below hb)
 have HW1:=Lib.hid (hb.mono hB)
 have Lr:=Lib.hid (Kept.of_below hb (fun k => k = g ∨ k = r))
 clear hb HC
 have hm1:w1.cell? ⟨g,1,none⟩ = some (.map (some r)):=(AA X5.out.blk 1).trans rfl
 obtain ⟨w2,es',PV,hrun,hm2,aV,U0⟩:=Np (v:=.complex .f64 u v) node X5.out.map O1.out
 have HB2:=Lib.hid ((U0.block g X5.out.ne).trans X5.out.blk)
 have Si:=Lib.hid hm2
 have kz:=Lib.hid aV
 have HW2:=Lib.hid (U0.below HW1.out hr)
 have WM:=Lib.hid (Lr.out.DT (⟨Nat.le_of_eq U0.size.symm,fun i _ hs => U0.block i (fun e => hs (.inr e))⟩:Kept w1 w2 (fun k => k = g ∨ k = r)) (fun k hk => .inl hk))
 have hc0:w2.cell? ⟨g,0,none⟩ = some (.complex .f64 x y):=(AA HB2.out 0).trans rfl
 have qM:=Lib.hid X5.out.ne
 clear hm2 U0 aV
 go_wp2_with fail
 refine (zC.out _).mono ?_
 rintro e w3 ⟨cp,cq,rfl,hcp,hcp1,hcp2,hb3⟩
 have lC:=Lib.hid (And.intro hcp (And.intro hcp1 hcp2))
 have HB3:=Lib.hid ((hb3.block g (AU HB2.out)).trans HB2.out)
 have OI:=Lib.hid ((hb3.block r (AU Si.out)).trans Si.out)
 have HW3:=Lib.hid (HW2.out.trans (hb3.mono (Nat.le_trans hB WM.out.1)))
 have VT:=Lib.hid (WM.out.DT (Kept.of_below hb3 (fun k => k = g ∨ k = r)) (fun k hk => .inl hk))
 have hc3:w3.cell? ⟨g,0,none⟩ = some (.complex .f64 x y):=(AA HB3.out 0).trans rfl
 have hf3:=AB HB3.out 0
 clear hb3 hrun hc0 hcp hcp1 hcp2
 go_wp2
 go_ret
 refine ⟨rfl,⟨es',PV,cp,cq,⟨AQ HB3.out 0 _ rfl,(Below.heap_setCell w3 ⟨g,0,none⟩ _ r (fun e => qM.out e.symm)).trans OI.out,qM.out⟩,lC.out.1,lC.out.2.1,lC.out.2.2,kz.out⟩,VT.out.setCell (p:=⟨g,0,none⟩) (.inl (.inl rfl)) _,HW3.out.setCell (p:=⟨g,0,none⟩) hg _⟩
end Go.Proofs.Ytnkkgofpifhoeaa.Ch
end
