/- What the laws of a pair are proved with: links and pairs in memory, what their methods do, what a pair keeps to (part 23). -/
import Derived.Test.YtnkkgofpifhoeaaPF22
import Derived.Deep.MidRow
import Derived.Deep.LoopGhost
import Derived.ArgAppend
import Derived.LoopN
import Derived.Laws.StructEq
set_option linter.unusedSimpArgs false
set_option linter.unusedVariables false
set_option maxRecDepth 100000
set_option maxHeartbeats 16000000
namespace Go.Proofs.Ytnkkgofpifhoeaa
theorem jv {p:Prop} (h:p:=by
 go_roundg (N - (i + 1))
 case measure => have:=HM.out; omega
 case rel => exact ⟨i + 1,rfl,by omega,by first | rfl | simp,by rw [HE.out]; exact HR.out,HB.out⟩):p:=h
end Go.Proofs.Ytnkkgofpifhoeaa
section
namespace Go.Proofs.Ytnkkgofpifhoeaa.Pe
open Go.RowKit Go.Proofs.Ytnkkgofpifhoeaa.Base Go.Proofs.Ytnkkgofpifhoeaa.Steps Go.Proofs.Ytnkkgofpifhoeaa.Lk Go.Proofs.YtnkkgofpifhoeaaW.PrintWords Go.Proofs.YtnkkgofpifhoeaaW.PrintLast
def Bj (XA XB:Ps) (i k:Nat):(Ps × List (List Int)) × (Ps × List (List Int)) :=
 (Ee k (Bi XA XA.nodes,[]) ((Ee i (XB,[]) (XA.pn k).e.out).1.pn i).e.out,(Bi (Ee i (XB,[]) (XA.pn k).e.out).1 (Ee i (XB,[]) (XA.pn k).e.out).1.nodes,(Ee i (XB,[]) (XA.pn k).e.out).2))
theorem Gl {i j:Nat} {s:Ps × List (List Int)} {ps:List BL} (h:s.1.has j):(Ee i s ps).1.has j:=by
 have hs:=D8 i s ps
 unfold Ps.has
 rw [hs.1,hs.2.1]
 exact h
theorem OZ {X:Ps} (h:GX X):GX (Bi X X.nodes):=fun k hk => by
 have hs:=Bo X X.nodes
 have hx:X.has k:=by unfold Ps.has at hk ⊢; rwa [hs.2.1,hs.2.2.1] at hk
 rw [Fe X X.nodes k hx.2.1 hx]
 exact ⟨TI (h k hx).1,We (h k hx).2⟩
theorem VA {w:World} {B0 Ba ga Bb gb:Nat} {V UA UB:Nat → Prop} {XA XB:Ps} (hA:PW w Ba ga UA XA) (hB:PW w Bb gb UB XB) (hap:∀ k,UA k → ¬ UB k) (i k:Nat) (hi:XB.has i) (hk:XA.has k) (gA:GX XA) (gB:GX XB) (nA:XA.nodes ≤ 64) (nB:XB.nodes ≤ 64) (eA:XA.evs.length ≤ 900000) (eB:XB.evs.length ≤ 900000) (h0:B0 ≤ Ba ∧ B0 ≤ Bb ∧ B0 ≤ w.heap.size) (hV:∀ r,V r → r < w.heap.size ∧ ¬ UA r ∧ ¬ UB r) :
  Calls Try.prog 52 #[.pointer (some ⟨ga,0,none⟩),.pointer (some ⟨gb,0,none⟩),.int .i64 i,.int .i64 k] w fun e w' => ∃ v0 v1 ok0 ok1 XY XZ,e = .returned (.agg #[v0,v1]) ∧ Fz.R 9 w' w.heap.size ok0 v0 ((Bj XA XB i k).1.2.map Go.strOfNums) ∧ Fz.R 9 w' w.heap.size ok1 v1 ((Bj XA XB i k).2.2.map Go.strOfNums) ∧ PW w' Ba ga XY (Bj XA XB i k).1.1 ∧ PW w' Bb gb XZ (Bj XA XB i k).2.1 ∧ (∀ r,XY r → ¬ XZ r) ∧ (∀ r,ok1 r → ¬ XY r ∧ ¬ XZ r) ∧ Below B0 w w' ∧ (∀ r,V r → ¬ XY r ∧ ¬ XZ r ∧ w'.heap[r]? = w.heap[r]?) ∧ w.heap.size ≤ w'.heap.size:=by
 have H0:=Lib.hid h0
 have rJ:=Lib.hid hap
 have rM:=Lib.hid hi
 have fD:=Lib.hid hk
 have GA:=Lib.hid gA
 have GB:=Lib.hid gB
 have NA:=Lib.hid nA
 have NB:=Lib.hid nB
 have EA:=Lib.hid eA
 have EB:=Lib.hid eB
 obtain ⟨g8,ag⟩:∃ g8,g8 = w.heap.size:=⟨_,rfl⟩
 obtain ⟨g9,fE⟩:∃ g9,g9 = w.heap.size + 1:=⟨_,rfl⟩
 obtain ⟨w2,hw2⟩:∃ w2,w2 = (w.alloc (.cells U9 94)).alloc (.cells U9 94):=⟨_,rfl⟩
 have hs1:(w.alloc (.cells U9 94)).heap.size = w.heap.size + 1:=by simp
 have hb2:Below w.heap.size w w2:=hw2 ▸ ((Below.refl _ _).alloc (Nat.le_refl _) _).alloc (by simp) _
 have h8:w2.heap[g8]? = some (.cells U9 94 (0,0)):=by rw [hw2,ag]; exact (Below.heap_alloc _ _ _ (by simp)).trans (heap_alloc_new w _)
 have h9:w2.heap[g9]? = some (.cells U9 94 (0,0)):=by rw [hw2,fE,← hs1]; exact heap_alloc_new _ _
 have HA2:=Lib.hid (hA.sub hb2)
 have HB2:=Lib.hid (hB.sub hb2)
 have H8:=Lib.hid h8
 have H9:=Lib.hid h9
 have jw:=Lib.hid (show B0 ≤ g9 from by omega)
 have YU:=Lib.hid (show g9 ≠ g8 ∧ ∀ r,r = g9 ∨ r = g8 → ¬ UA r ∧ ¬ UB r from ⟨by omega,fun r hr => ⟨fun hu => by have:=hA.lt r hu; rcases hr with hr | hr <;> omega,fun hu => by have:=hB.lt r hu; rcases hr with hr | hr <;> omega⟩⟩)
 have MF:=Lib.hid hb2
 have HV:=Lib.hid (show ∀ r,V r → r < w2.heap.size ∧ ¬ UA r ∧ ¬ UB r ∧ r ≠ g9 ∧ r ≠ g8 ∧ w2.heap[r]? = w.heap[r]? from fun r hr => by
  have h1:=hV r hr
  have h2:=hb2.size
  exact ⟨by omega,h1.2.1,h1.2.2,by omega,by omega,hb2.block r h1.1⟩)
 have HO:=Lib.hid (TN HA2.out nA gA)
 have rO:=Lib.hid (gA.wire k hk)
 have rP:=Lib.hid (gA.len k hk)
 clear hA hB hap hi hk gA gB nA nB eA eB h0 h8 h9 hb2 hV
 simp only [U9] at hw2
 go_enter Try.func52,Try.ntmps52
 go_wp2_with fail
 rw [← hw2,← fE,← ag]
 refine HO.out.mono ?_
 rintro e w3 ⟨x1,rfl,hR,hP,hK,hbl⟩
 obtain ⟨A1,c1,hx1⟩:=Kd.BA hR
 have VB:=Lib.hid (show (Cm XA XA.nodes).length ≤ 100000 from by have h1:=Fq GA.out.len XA.nodes; have h2:=NA.out; omega)
 obtain ⟨L1,hL1⟩:∃ L1,L1 = Cm XA XA.nodes:=⟨_,rfl⟩
 rw [← hL1] at hR hx1 VB
 obtain ⟨UH,Wi⟩:∃ UH,UH = L1.length:=⟨_,rfl⟩
 rw [← Wi] at hx1 VB
 have YV:=Lib.hid Wi.symm
 subst hx1
 obtain ⟨pA,hpA⟩:∃ pA,pA = (XA.pn k).e.out:=⟨_,rfl⟩
 have fF:w.heap.size ≤ w2.heap.size:=MF.out.size
 obtain ⟨fG,hS0⟩:=SX.start (b:=w.heap.size) HB2.out rJ.out HA2.out.lt H9.out H8.out YU.out.1 YU.out.2 hP hK hR fF HV.out
 have jy:=Lib.hid (show LP V w B0 w.heap.size Ba ga Bb gb g9 g8 (Bi XA XA.nodes) i k (XB,[]) pA (.slice A1 UH c1) L1 (.slice none 0 0) [] (fun v => #[.slice none 0 0,v]) 0 w3 from ⟨0,.slice none 0 0,fG,hS0,(by rw [List.drop_zero,List.drop_zero,hL1,LZ,if_pos ⟨fD.out.2.1,fD.out⟩,hpA]),Nat.zero_le _,((MF.out.mono H0.out.2.2).trans (hbl.mono H0.out.1)),Nat.le_trans fF hK.1⟩)
 have Wj:=Lib.hid (show ∀ p ∈ pA,Iy p ∧ p.kind ≠ 4 from hpA ▸ rO.out)
 have fH:=Lib.hid (show pA.length ≤ 1024 from hpA ▸ rP.out)
 have fJ:=Lib.hid (show GX (XB,([]:List (List Int))).1 from GB.out)
 have fK:=Lib.hid (show (XB,([]:List (List Int))).1.evs.length ≤ 900000 from EB.out)
 have YW:=Lib.hid (show (XB,([]:List (List Int))).1.has i from rM.out)
 have Wl:=Lib.hid hpA
 have eu:=Lib.hid ag
 have rQ:=VB.out
 clear hR hP hK hbl Wi hL1 hS0 hpA fF HO HA2 HB2 H8 H9 hw2 ag fE MF
 go_wp2_with fail
 go_loopw [11] (fun u wr => ∃ m:Nat,m ≤ UH ∧ u = .int .i64 (m:Int) ∧ LP V w B0 w.heap.size Ba ga Bb gb g9 g8 (Bi XA XA.nodes) i k (XB,[]) pA (.slice A1 UH c1) L1 (.slice none 0 0) [] (fun v => #[.slice none 0 0,v]) m wr) (fun u wr => UH - (intOf u).toNat)
 case atStart => exact ⟨0,Nat.zero_le _,rfl,jy.out⟩
 case round =>
  obtain ⟨wo,rfl⟩:∃ wo:World,wo = wr:=⟨_,rfl⟩
  obtain ⟨m,hm,rfl,hF⟩:=hrel
  have HF:=Lib.hid hF
  have HM:=Lib.hid hm
  have VO:=VB.out
  clear hF jy hm
  by_cases hlt:m < UH
  ·have hd:decide ((m:Int) < (UH:Int)) = true:=by simp [hlt]
   have Wn:m < L1.length:=by rw [YV.out]; exact hlt
   have fM:=Lib.hid Wn
   obtain ⟨q,v,col,hS,hfil,hq,hb0,hbb⟩:=HF.out
   obtain ⟨gx,Ab,cb,hAx,-,k0,k1,hlen,hC⟩:=KO hS.x m hlt
   subst hAx
   by_cases hto:((L1.getD m Gs).1 == (k:Int)) = true
   ·obtain ⟨Kr,hxe,MZ⟩:=TR hfil Wn hto
    rw [hxe] at k0 k1 hlen hC
    have hmem:pA.getD q IE ∈ pA:=by rw [List.getD_eq_getElem?_getD,List.getElem?_eq_getElem Kr]; exact List.getElem_mem _
    have hwk:=Wj.out _ hmem
    have htk:pA.take (q + 1) = pA.take q ++ [pA.getD q IE]:=by rw [List.take_add_one,List.getElem?_eq_getElem Kr,List.getD_eq_getElem?_getD,List.getElem?_eq_getElem Kr]; rfl
    have hsn:=MX i (XB,[]) (pA.take q) (pA.getD q IE)
    rw [← htk] at hsn
    have hgl:=PV i (XB,[]) (pA.take q)
    have hes:=D8 i (XB,[]) (pA.take q)
    have hpl:=fH.out
    have hy:=hS.y
    have YX:GX (Ee i (XB,[]) (pA.take q)).1:=Ia i fJ.out (fun p hp => (Wj.out p (List.mem_of_mem_take hp)).1.good)
    have hco:=PU hy i (Gl YW.out) YX (Nat.le_trans hes.2.2 (by rw [List.length_take]; have h2:=fK.out; simp only at h2 ⊢; omega)) hwk.1 hwk.2 Ab cb hC hlen
    have fO:=Lib.hid (show (Ee i (XB,[]) (pA.take q)).2.length ≤ 100000 from Nat.le_trans hgl (by rw [List.length_take]; simp only [List.length_nil]; omega))
    have Mc:=Lib.hid MZ
    have HQ:=Lib.hid Kr
    have YY:=Lib.hid hsn
    have HS:=Lib.hid hS
    have HB0:=Lib.hid hb0
    have YZ:=Lib.hid hbb
    generalize pA.getD q IE = p at *
    generalize hY:Ee i (XB,[]) (pA.take q) = sY at *
    generalize hbd:(BO (sY.1.pn i).e 1 p).2.body = bd at *
    have Jy:=Lib.hid hbd
    generalize hnb:bd.length = nb at *
    have TT:=Lib.hid hnb
    have Ya:=Lib.hid hco
    clear hto hxe hmem hwk htk hsn hgl hes hpl hy YX hco hfil MZ hq Kr hS hb0 hbb hC hlen hY hbd hnb
    have Oa:((k:Int) == (k:Int)) = true:=by simp
    by_cases hz:nb = 0
    ·have hg:decide ((nb:Int) > 0) = false:=by simp; omega
     have hz1:bd.length = 0:=by rw [TT.out]; exact hz
     have HZ1:=Lib.hid hz1
     subst hz
     go_wp2_with (go_at_call 94; (have hc:=Ya.out); (with_reducible refine hc.mono ?_); clear hc; rintro e w5 ⟨A7,c7,rfl,VC,TU,hK7,TY⟩; (have fP:=Lib.hid (show LP V w B0 w.heap.size Ba ga Bb gb g9 g8 (Bi XA XA.nodes) i k (XB,[]) pA _ L1 (.slice none 0 0) [] (fun v => #[.slice none 0 0,v]) (m + 1) w5 from ⟨q + 1,v,_,(by rw [YY.out]; unfold OY; rw [Jy.out,HZ1.out,if_pos rfl,List.append_nil]; exact HS.out.take TU hK7),Mc.out,HQ.out,HB0.out.trans (TY.mono H0.out.2.1),Nat.le_trans YZ.out hK7.1⟩)); (clear VC TU hK7 TY))
     go_roundw
     case rel => exact ⟨m + 1,by omega,by go_num,fP.out⟩
     case measure => simp [intOf]; omega
    ·have hg:decide ((nb:Int) > 0) = true:=by simp; omega
     have hz1:¬ bd.length = 0:=by rw [TT.out]; exact hz
     have HZ1:=Lib.hid hz1
     clear hz1
     go_wp2_with (first | (go_at_call 94; (have hc:=Ya.out); (with_reducible refine hc.mono ?_); clear hc; rintro e w5 ⟨A7,c7,rfl,VC,TU,hK7,TY⟩; (have hS5:=HS.out.take TU hK7); (have JQ:=Lib.hid (HB0.out.trans (TY.mono H0.out.2.1))); (have TZ:=Lib.hid (Nat.le_trans YZ.out hK7.1)); (obtain ⟨A3,c3,hv3⟩:=Kd.BA hS5.g); (generalize fQ:(List.map Go.strOfNums sY.2).length = nv at hv3); (clear fQ); (subst hv3); (have kv:w5.cell? ⟨g9,1,none⟩ = some (.slice A3 nv c3):=(AA hS5.a9 1).trans rfl); (have hcv:=Kd.JM (P:=Try.prog) (dst:=9) (c:=c7) Try.underlying22 Try.underlying5 Try.underlying9 VC); (have Jj:=Lib.hid hS5); (clear VC TU hK7 TY hS5)) | ((with_reducible refine AV (N:=52) rfl ?_); (refine Kd.Ej (W:=w5) (w0:=w5) Fz w.heap.size rfl (.tmp 48) (.tmp 51) 74 9 (.string ⟨#[]⟩) 16 rfl Try.underlying74 info9 rfl (by decide) (by decide) (.slice A3 nv c3) (sY.2.map Go.strOfNums) (Go.strOfNums bd) [.string (Go.strOfNums bd)] (fun r => grow col 1 wo w5 3 r ∨ w5.heap.size ≤ r) (fun _ => False) rfl rfl (show Kd.M Fz _ _ _ (Go.strOfNums bd) [.string (Go.strOfNums bd)] from rfl) (fun _ h => h.elim) (fun _ hr => .inr hr) (Kd.Az Jj.out.g (fun _ h => .inl h)) (Below.refl _ _) TZ.out (by have:=fO.out; rw [List.length_map]; omega) ?_); (intro v1 w6 UI hb6 NL Tc); (have hk6:Kept w5 w6 (grow col 1 wo w5 3):=Kept.Eo NL (Kept.refl w5 _) (fun r hr => .inl (Jj.out.g.1 r hr))); (have PX:=Ah Jj.out.a9 hk6 (fun hx => absurd (Jj.out.DY 5 3 _ Jj.out.c9 hx) (by decide))); (have rU:w6.cell? ⟨g9,1,none⟩ = some (.slice A3 nv c3):=(AA PX 1).trans rfl); (have rV:=AB PX 1); (obtain ⟨A6,c6,hv6⟩:=Kd.BA UI); (generalize Wp:(List.map Go.strOfNums sY.2 ++ [Go.strOfNums bd]).length = fU at hv6); (clear Wp); (subst hv6); (have Yb:=Lib.hid (Jj.out.app (j:=1) hk6 UI rfl)); (have Qq:=Lib.hid (hb6)); (have fV:=Lib.hid hk6.1); (clear UI hb6 NL Tc hk6 PX kv)))
     go_roundw
     case rel =>
      refine ⟨m + 1,by omega,by go_num,q + 1,.slice A6 fU c6,grow (grow col 1 wo w5) 3 w5 w6,?_,Mc.out,HQ.out,(JQ.out.trans (Qq.out.mono H0.out.2.2)).setCell (p:=⟨g9,1,none⟩) jw.out _,?_⟩
      ·rw [YY.out]
       unfold OY
       rw [Jy.out,if_neg HZ1.out,List.map_append]
       exact Yb.out
      ·have h1:=TZ.out
       have h2:=fV.out
       simp [World.setCell]
       omega
     case measure => simp [intOf]; omega
   ·have Oa:((L1.getD m Gs).1 == (k:Int)) = false:=by simpa using hto
    have fZ:=Lib.hid Oa
    have HN:=Lib.hid (HF.out.next Wn Oa)
    clear hto hfil hq hS hb0 hbb hC hlen fZ
    generalize L1.getD m Gs = xo at *
    go_wp2_with fail
    go_roundw
    case rel => exact ⟨m + 1,by omega,by go_num,HN.out⟩
    case measure => simp [intOf]; omega
  ·have hd:decide ((m:Int) < (UH:Int)) = false:=by simp; omega
   have hme:m = UH:=by have:=HM.out; omega
   subst hme
   obtain ⟨q,v9,rW,hS,hfil,hq,hb0,hbb⟩:=HF.out
   have hqe:pA.take q = pA:=by
    rw [← YV.out,List.drop_length] at hfil
    have h2:FM k (pA.drop q) = []:=hfil.symm
    unfold FM at h2
    rw [List.map_eq_nil_iff] at h2
    exact List.take_of_length_le (List.drop_eq_nil_iff.1 h2)
   rw [hqe] at hS
   obtain ⟨s1,hs1⟩:∃ s1,s1 = Ee i (XB,[]) pA:=⟨_,rfl⟩
   rw [← hs1] at hS
   have hds:=D8 i (XB,[]) pA
   rw [← hs1] at hds
   have hg1:GX s1.1:=by rw [hs1]; exact Ia i (s:=(XB,[])) GB.out (fun p hp => (Wj.out p hp).1.good)
   have hh1:s1.1.has i:=by rw [hs1]; exact Gl YW.out
   have Yc:=Lib.hid hS
   have gG:=Lib.hid hb0
   have Yd:=Lib.hid hbb
   have rX:=Lib.hid hs1
   have kC:=Lib.hid (TN hS.y (by rw [hds.2.1]; exact NB.out) hg1)
   have Wq:=Lib.hid (show ∀ p ∈ (s1.1.pn i).e.out,Iy p ∧ p.kind ≠ 4 from hg1.wire i hh1)
   have Ye:=Lib.hid (show (s1.1.pn i).e.out.length ≤ 1024 from hg1.len i hh1)
   have kD:=Lib.hid hh1
   have rY:=Lib.hid hg1
   have rZ:=Lib.hid (show s1.1.nodes ≤ 64 from by rw [hds.2.1]; exact NB.out)
   have hos:=Bo XA XA.nodes
   have gI:=Lib.hid (show GX (Bi XA XA.nodes,([]:List (List Int))).1 from OZ GA.out)
   have gJ:=Lib.hid (show (Bi XA XA.nodes,([]:List (List Int))).1.evs.length ≤ 900000 from by show (Bi XA XA.nodes).evs.length ≤ _; rw [hos.2.2.2]; exact EA.out)
   have gK:=Lib.hid (show (Bi XA XA.nodes,([]:List (List Int))).1.has k from by unfold Ps.has; rw [hos.2.1,hos.2.2.1]; exact fD.out)
   clear hS hfil hq hb0 hbb hqe hs1 hds hg1 hh1 hos HF VO
   go_wp2_with fail
   refine kC.out.mono ?_
   rintro e w7 ⟨x2,rfl,hR,hP,hK,hbl⟩
   obtain ⟨A2,c2,hx2⟩:=Kd.BA hR
   have VD:=Lib.hid (show (Cm s1.1 s1.1.nodes).length ≤ 100000 from by have h1:=Fq rY.out.len s1.1.nodes; have h2:=rZ.out; omega)
   obtain ⟨L2,hL2⟩:∃ L2,L2 = Cm s1.1 s1.1.nodes:=⟨_,rfl⟩
   rw [← hL2] at hR hx2 VD
   obtain ⟨UJ,Ws⟩:∃ UJ,UJ = L2.length:=⟨_,rfl⟩
   rw [← Ws] at hx2 VD
   have Yf:=Lib.hid Ws.symm
   subst hx2
   obtain ⟨pB,ah⟩:∃ pB,pB = (s1.1.pn i).e.out:=⟨_,rfl⟩
   rw [← ah] at Wq Ye
   obtain ⟨gQ,hS2⟩:=Yc.out.turn hP hK hR Yd.out
   have HL2:=Lib.hid (show LP V w B0 w.heap.size Bb gb Ba ga g9 g8 (Bi s1.1 s1.1.nodes) k i (Bi XA XA.nodes,[]) pB (.slice A2 UJ c2) L2 v9 (s1.2.map Go.strOfNums) (fun u => #[u,v9]) 0 w7 from ⟨0,.slice none 0 0,gQ,hS2,(by rw [List.drop_zero,List.drop_zero,hL2,LZ,if_pos ⟨kD.out.2.1,kD.out⟩,ah]),Nat.zero_le _,gG.out.trans (hbl.mono H0.out.2.1),Nat.le_trans Yd.out hK.1⟩)
   have rq:=Lib.hid ah
   have ru:=VD.out
   clear hR hP hK hbl Ws hL2 hS2 ah kC Yc
   go_wp2_with fail
   go_loopw [15] (fun u wr => ∃ m:Nat,m ≤ UJ ∧ u = .int .i64 (m:Int) ∧ LP V w B0 w.heap.size Bb gb Ba ga g9 g8 (Bi s1.1 s1.1.nodes) k i (Bi XA XA.nodes,[]) pB (.slice A2 UJ c2) L2 v9 (s1.2.map Go.strOfNums) (fun u => #[u,v9]) m wr) (fun u wr => UJ - (intOf u).toNat)
   case atStart => exact ⟨0,Nat.zero_le _,rfl,HL2.out⟩
   case round =>
    obtain ⟨wo,rfl⟩:∃ wo:World,wo = wr:=⟨_,rfl⟩
    obtain ⟨m,hm,rfl,hF⟩:=hrel
    have HF:=Lib.hid hF
    have HM:=Lib.hid hm
    have VO:=VD.out
    clear hF HL2 hm
    by_cases hlt:m < UJ
    ·have hd:decide ((m:Int) < (UJ:Int)) = true:=by simp [hlt]
     have Wn:m < L2.length:=by rw [Yf.out]; exact hlt
     have fM:=Lib.hid Wn
     obtain ⟨q,v,col,hS,hfil,hq,hb0,hbb⟩:=HF.out
     obtain ⟨gx,Ab,cb,hAx,-,k0,k1,hlen,hC⟩:=KO hS.x m hlt
     subst hAx
     by_cases hto:((L2.getD m Gs).1 == (i:Int)) = true
     ·obtain ⟨Kr,hxe,MZ⟩:=TR hfil Wn hto
      rw [hxe] at k0 k1 hlen hC
      have hmem:pB.getD q IE ∈ pB:=by rw [List.getD_eq_getElem?_getD,List.getElem?_eq_getElem Kr]; exact List.getElem_mem _
      have hwk:=Wq.out _ hmem
      have htk:pB.take (q + 1) = pB.take q ++ [pB.getD q IE]:=by rw [List.take_add_one,List.getElem?_eq_getElem Kr,List.getD_eq_getElem?_getD,List.getElem?_eq_getElem Kr]; rfl
      have hsn:=MX k (Bi XA XA.nodes,[]) (pB.take q) (pB.getD q IE)
      rw [← htk] at hsn
      have hgl:=PV k (Bi XA XA.nodes,[]) (pB.take q)
      have hes:=D8 k (Bi XA XA.nodes,[]) (pB.take q)
      have hpl:=Ye.out
      have hy:=hS.y
      have YX:GX (Ee k (Bi XA XA.nodes,[]) (pB.take q)).1:=Ia k gI.out (fun p hp => (Wq.out p (List.mem_of_mem_take hp)).1.good)
      have hco:=PU hy k (Gl gK.out) YX (Nat.le_trans hes.2.2 (by rw [List.length_take]; have h2:=gJ.out; simp only at h2 ⊢; omega)) hwk.1 hwk.2 Ab cb hC hlen
      have fO:=Lib.hid (show (Ee k (Bi XA XA.nodes,[]) (pB.take q)).2.length ≤ 100000 from Nat.le_trans hgl (by rw [List.length_take]; simp only [List.length_nil]; omega))
      have Mc:=Lib.hid MZ
      have HQ:=Lib.hid Kr
      have YY:=Lib.hid hsn
      have HS:=Lib.hid hS
      have HB0:=Lib.hid hb0
      have YZ:=Lib.hid hbb
      generalize pB.getD q IE = p at *
      generalize hY:Ee k (Bi XA XA.nodes,[]) (pB.take q) = sY at *
      generalize hbd:(BO (sY.1.pn k).e 1 p).2.body = bd at *
      have Jy:=Lib.hid hbd
      generalize hnb:bd.length = nb at *
      have TT:=Lib.hid hnb
      have Ya:=Lib.hid hco
      clear hto hxe hmem hwk htk hsn hgl hes hpl hy YX hco hfil MZ hq Kr hS hb0 hbb hC hlen hY hbd hnb
      have Oa:((i:Int) == (i:Int)) = true:=by simp
      by_cases hz:nb = 0
      ·have hg:decide ((nb:Int) > 0) = false:=by simp; omega
       have hz1:bd.length = 0:=by rw [TT.out]; exact hz
       have HZ1:=Lib.hid hz1
       subst hz
       go_wp2_with (go_at_call 94; (have hc:=Ya.out); (with_reducible refine hc.mono ?_); clear hc; rintro e w5 ⟨A7,c7,rfl,VC,TU,hK7,TY⟩; (have fP:=Lib.hid (show LP V w B0 w.heap.size Bb gb Ba ga g9 g8 (Bi s1.1 s1.1.nodes) k i (Bi XA XA.nodes,[]) pB _ L2 v9 (s1.2.map Go.strOfNums) (fun u => #[u,v9]) (m + 1) w5 from ⟨q + 1,v,_,(by rw [YY.out]; unfold OY; rw [Jy.out,HZ1.out,if_pos rfl,List.append_nil]; exact HS.out.take TU hK7),Mc.out,HQ.out,HB0.out.trans (TY.mono H0.out.1),Nat.le_trans YZ.out hK7.1⟩)); (clear VC TU hK7 TY))
       go_roundw
       case rel => exact ⟨m + 1,by omega,by go_num,fP.out⟩
       case measure => simp [intOf]; omega
      ·have hg:decide ((nb:Int) > 0) = true:=by simp; omega
       have hz1:¬ bd.length = 0:=by rw [TT.out]; exact hz
       have HZ1:=Lib.hid hz1
       clear hz1
       go_wp2_with (first | (go_at_call 94; (have hc:=Ya.out); (with_reducible refine hc.mono ?_); clear hc; rintro e w5 ⟨A7,c7,rfl,VC,TU,hK7,TY⟩; (have hS5:=HS.out.take TU hK7); (have JQ:=Lib.hid (HB0.out.trans (TY.mono H0.out.1))); (have TZ:=Lib.hid (Nat.le_trans YZ.out hK7.1)); (obtain ⟨A3,c3,hv3⟩:=Kd.BA hS5.g); (generalize fQ:(List.map Go.strOfNums sY.2).length = nv at hv3); (clear fQ); (subst hv3); (have kv:w5.cell? ⟨g9,0,none⟩ = some (.slice A3 nv c3):=(AA hS5.a9 0).trans rfl); (have hcv:=Kd.JM (P:=Try.prog) (dst:=9) (c:=c7) Try.underlying22 Try.underlying5 Try.underlying9 VC); (have Jj:=Lib.hid hS5); (clear VC TU hK7 TY hS5)) | ((with_reducible refine AV (N:=88) rfl ?_); (refine Kd.Ej (W:=w5) (w0:=w5) Fz w.heap.size rfl (.tmp 84) (.tmp 87) 74 9 (.string ⟨#[]⟩) 16 rfl Try.underlying74 info9 rfl (by decide) (by decide) (.slice A3 nv c3) (sY.2.map Go.strOfNums) (Go.strOfNums bd) [.string (Go.strOfNums bd)] (fun r => grow col 1 wo w5 3 r ∨ w5.heap.size ≤ r) (fun _ => False) rfl rfl (show Kd.M Fz _ _ _ (Go.strOfNums bd) [.string (Go.strOfNums bd)] from rfl) (fun _ h => h.elim) (fun _ hr => .inr hr) (Kd.Az Jj.out.g (fun _ h => .inl h)) (Below.refl _ _) TZ.out (by have:=fO.out; rw [List.length_map]; omega) ?_); (intro v1 w6 UI hb6 NL Tc); (have hk6:Kept w5 w6 (grow col 1 wo w5 3):=Kept.Eo NL (Kept.refl w5 _) (fun r hr => .inl (Jj.out.g.1 r hr))); (have PX:=Ah Jj.out.a9 hk6 (fun hx => absurd (Jj.out.DY 5 3 _ Jj.out.c9 hx) (by decide))); (have rU:w6.cell? ⟨g9,0,none⟩ = some (.slice A3 nv c3):=(AA PX 0).trans rfl); (have rV:=AB PX 0); (obtain ⟨A6,c6,hv6⟩:=Kd.BA UI); (generalize Wp:(List.map Go.strOfNums sY.2 ++ [Go.strOfNums bd]).length = fU at hv6); (clear Wp); (subst hv6); (have Yb:=Lib.hid (Jj.out.app (j:=0) hk6 UI rfl)); (have Qq:=Lib.hid (hb6)); (have fV:=Lib.hid hk6.1); (clear UI hb6 NL Tc hk6 PX kv)))
       go_roundw
       case rel =>
        refine ⟨m + 1,by omega,by go_num,q + 1,.slice A6 fU c6,grow (grow col 1 wo w5) 3 w5 w6,?_,Mc.out,HQ.out,(JQ.out.trans (Qq.out.mono H0.out.2.2)).setCell (p:=⟨g9,0,none⟩) jw.out _,?_⟩
        ·rw [YY.out]
         unfold OY
         rw [Jy.out,if_neg HZ1.out,List.map_append]
         exact Yb.out
        ·have h1:=TZ.out
         have h2:=fV.out
         simp [World.setCell]
         omega
       case measure => simp [intOf]; omega
     ·have Oa:((L2.getD m Gs).1 == (i:Int)) = false:=by simpa using hto
      have fZ:=Lib.hid Oa
      have HN:=Lib.hid (HF.out.next Wn Oa)
      clear hto hfil hq hS hb0 hbb hC hlen fZ
      generalize L2.getD m Gs = xo at *
      go_wp2_with fail
      go_roundw
      case rel => exact ⟨m + 1,by omega,by go_num,HN.out⟩
      case measure => simp [intOf]; omega
    ·have hd:decide ((m:Int) < (UJ:Int)) = false:=by simp; omega
     have hme:m = UJ:=by have:=HM.out; omega
     subst hme
     obtain ⟨q,v8,gU,hS,hfil,hq,hb0,hbb⟩:=HF.out
     have hqe:pB.take q = pB:=by
      rw [← Yf.out,List.drop_length] at hfil
      have h2:FM i (pB.drop q) = []:=hfil.symm
      unfold FM at h2
      rw [List.map_eq_nil_iff] at h2
      exact List.take_of_length_le (List.drop_eq_nil_iff.1 h2)
     rw [hqe] at hS
     have HS:=Lib.hid hS
     have HB0:=Lib.hid hb0
     have gV:=Lib.hid hbb
     obtain ⟨A8,c8,kE⟩:=Kd.BA hS.g
     obtain ⟨A9,c9,YJ⟩:=Kd.BA hS.h
     generalize ry:(List.map Go.strOfNums (Ee k (Bi XA XA.nodes,[]) pB).2).length = n8 at kE
     generalize sD:(s1.2.map Go.strOfNums).length = n9 at YJ
     clear ry sD hS hfil hq hb0 hbb hqe HF VO
     subst kE YJ
     go_wp2_with (first | ((with_reducible refine AV (N:=90) rfl ?_); (refine wpList_load_row rfl 94 (.tmp 9) rfl g9 (by rfl) 94 #[.slice A8 n8 c8,.slice A9 n9 c9] (0,0) _ HS.out.a9 Try.underlying94 rfl (by kernel_rfl) ?_)) | ((with_reducible refine gate_ (.store 94 (.tmp 8) (.tmp 90)) rfl ?_); (refine Ae rfl rfl 94 (.tmp 8) (.tmp 90) rfl g8 #[.slice A8 n8 c8,.slice A9 n9 c9] rfl rfl 94 _ HS.out.a8 (by kernel_rfl) rfl (by kernel_rfl) ?_); (intro w9 ED D7); (have DC:=Lib.hid ED); (have Wu:=Lib.hid D7); (clear ED D7)))
     refine bodyPost_ret (v:=_) (Pk.results_cell Try.results52 _ _ rfl (run_loadVar_row (P:=Try.prog) _ g8 94 94 _ (0,0) _ DC.out Try.underlying94 rfl (by kernel_rfl))) rfl ?_
     have gW:=gV.out
     have hkk:Kept wo w9 (fun r => r = g8):=⟨Nat.le_of_eq Wu.out.size.symm,fun r _ hs => Wu.out.block r hs⟩
     have ap:∀ c,c ≠ 5 → ∀ r,gU c r → ¬ r = g8:=fun c hc r h1 h2 => hc (HS.out.DY c 5 r h1 (h2 ▸ HS.out.c8))
     have hSP:Bj XA XB i k = (Ee k (Bi XA XA.nodes,[]) pB,(Bi s1.1 s1.1.nodes,s1.2)):=by unfold Bj; rw [rq.out,rX.out,Wl.out]
     rw [hSP]
     exact ⟨_,_,rfl,⟨_,Kd.BJ HS.out.g hkk (ap 3 (by decide))⟩,_,Kd.BJ HS.out.h hkk (ap 4 (by decide)),_,HS.out.y.kept hkk (ap 1 (by decide)),_,HS.out.z.kept hkk (ap 0 (by decide)),(fun r h1 h2 => by have:=HS.out.DY 1 0 r h1 h2; omega),(fun r h1 => ⟨fun h2 => by have:=HS.out.DY 4 1 r h1 h2; omega,fun h2 => by have:=HS.out.DY 4 0 r h1 h2; omega⟩),HB0.out.trans (Wu.out.below (Below.refl _ _) (by have:=eu.out; have:=H0.out.2.2; omega)),(fun r hv => ⟨fun h2 => by have:=HS.out.DY 1 6 r h2 (HS.out.kv r hv).1; omega,fun h2 => by have:=HS.out.DY 0 6 r h2 (HS.out.kv r hv).1; omega,(Wu.out.block r (ap 6 (by decide) r (HS.out.kv r hv).1)).trans (HS.out.kv r hv).2⟩),Nat.le_trans gW (Nat.le_of_eq Wu.out.size.symm)⟩
end Go.Proofs.Ytnkkgofpifhoeaa.Pe
end
section
namespace Go.Proofs.Ytnkkgofpifhoeaa.Pe
open Go.Proofs.Ytnkkgofpifhoeaa.Lk
def iter (XA XB:Ps) (i k:Nat):Nat → Ps × Ps
 | 0 => (XA,XB)
 | n + 1 => ((Bj (iter XA XB i k n).1 (iter XA XB i k n).2 i k).1.1,(Bj (iter XA XB i k n).1 (iter XA XB i k n).2 i k).2.1)
theorem GR (me:Nat) (N:Nat):GX (fresh me 1 N):=fun k hk => ⟨KF (TG (by decide)),PR (WZ _)⟩
theorem Md (XA XB:Ps) (i k j:Nat):((Bj XA XB i k).1.1.has j ↔ XA.has j) ∧ ((Bj XA XB i k).2.1.has j ↔ XB.has j):=by
 unfold Bj
 have h1:=D8 k (Bi XA XA.nodes,([]:List (List Int))) ((Ee i (XB,[]) (XA.pn k).e.out).1.pn i).e.out
 have h2:=Bo XA XA.nodes
 have h3:=D8 i (XB,([]:List (List Int))) (XA.pn k).e.out
 have h4:=Bo (Ee i (XB,[]) (XA.pn k).e.out).1 (Ee i (XB,[]) (XA.pn k).e.out).1.nodes
 constructor
 ·unfold Ps.has
  rw [h1.1,h1.2.1,h2.2.1,h2.2.2.1]
 ·unfold Ps.has
  rw [h4.2.1,h4.2.2.1,h3.1,h3.2.1]
theorem Jk (XA XB:Ps) (i k:Nat):(Bj XA XB i k).1.1.nodes = XA.nodes ∧ (Bj XA XB i k).2.1.nodes = XB.nodes:=by
 unfold Bj
 have h1:=D8 k (Bi XA XA.nodes,([]:List (List Int))) ((Ee i (XB,[]) (XA.pn k).e.out).1.pn i).e.out
 have h2:=Bo XA XA.nodes
 have h3:=D8 i (XB,([]:List (List Int))) (XA.pn k).e.out
 have h4:=Bo (Ee i (XB,[]) (XA.pn k).e.out).1 (Ee i (XB,[]) (XA.pn k).e.out).1.nodes
 exact ⟨h1.2.1.trans h2.2.2.1,h4.2.2.1.trans h3.2.1⟩
theorem PY {XA XB:Ps} (hA:GX XA) (hB:GX XB) {i k:Nat} (hi:XB.has i) (hk:XA.has k):GX (Bj XA XB i k).1.1 ∧ GX (Bj XA XB i k).2.1:=by
 have g1:GX (Ee i (XB,[]) (XA.pn k).e.out).1:=Ia i (s:=(XB,[])) hB (fun p hp => (hA.wire k hk p hp).1.good)
 have hh:(Ee i (XB,[]) (XA.pn k).e.out).1.has i:=Gl (s:=(XB,[])) hi
 exact ⟨Ia k (s:=(Bi XA XA.nodes,[])) (OZ hA) (fun p hp => (g1.wire i hh p hp).1.good),OZ g1⟩
theorem Me {XA XB:Ps} (hA:GX XA) (hB:GX XB) {i k:Nat} (hi:XB.has i) (hk:XA.has k):(Bj XA XB i k).1.1.evs.length ≤ XA.evs.length + 2048 ∧ (Bj XA XB i k).2.1.evs.length ≤ XB.evs.length + 2048:=by
 have g1:GX (Ee i (XB,[]) (XA.pn k).e.out).1:=Ia i (s:=(XB,[])) hB (fun p hp => (hA.wire k hk p hp).1.good)
 have hh:(Ee i (XB,[]) (XA.pn k).e.out).1.has i:=Gl (s:=(XB,[])) hi
 have h1:=D8 k (Bi XA XA.nodes,([]:List (List Int))) ((Ee i (XB,[]) (XA.pn k).e.out).1.pn i).e.out
 have h2:=Bo XA XA.nodes
 have h3:=D8 i (XB,([]:List (List Int))) (XA.pn k).e.out
 have h4:=Bo (Ee i (XB,[]) (XA.pn k).e.out).1 (Ee i (XB,[]) (XA.pn k).e.out).1.nodes
 have l1:=hA.len k hk
 have l2:=g1.len i hh
 constructor
 ·have:=h1.2.2
  show (Ee k (Bi XA XA.nodes,[]) ((Ee i (XB,[]) (XA.pn k).e.out).1.pn i).e.out).1.evs.length ≤ _
  have e:(Bi XA XA.nodes,([]:List (List Int))).1.evs.length = XA.evs.length:=congrArg List.length h2.2.2.2
  omega
 ·show (Bi (Ee i (XB,[]) (XA.pn k).e.out).1 (Ee i (XB,[]) (XA.pn k).e.out).1.nodes).evs.length ≤ _
  rw [h4.2.2.2]
  have:=h3.2.2
  have e:(XB,([]:List (List Int))).1.evs.length = XB.evs.length:=rfl
  omega
theorem NC {XA XB:Ps} (hA:GX XA) (hB:GX XB) {i k:Nat} (hi:XB.has i) (hk:XA.has k) (n:Nat):GX (iter XA XB i k n).1 ∧ GX (iter XA XB i k n).2 ∧ (iter XA XB i k n).1.has k ∧ (iter XA XB i k n).2.has i ∧ (iter XA XB i k n).1.nodes = XA.nodes ∧ (iter XA XB i k n).2.nodes = XB.nodes ∧ (iter XA XB i k n).1.evs.length ≤ XA.evs.length + 2048 * n ∧ (iter XA XB i k n).2.evs.length ≤ XB.evs.length + 2048 * n:=by
 induction n with
 | zero => exact ⟨hA,hB,hk,hi,rfl,rfl,Nat.le_refl _,Nat.le_refl _⟩
 | succ n ih =>
  obtain ⟨g1,g2,h1,h2,n1,n2,e1,e2⟩:=ih
  have hs:=Md (iter XA XB i k n).1 (iter XA XB i k n).2 i k
  have hg:=PY g1 g2 h2 h1
  have hn:=Jk (iter XA XB i k n).1 (iter XA XB i k n).2 i k
  have he:=Me g1 g2 h2 h1
  exact ⟨hg.1,hg.2,(hs k).1.2 h1,(hs i).2.2 h2,hn.1.trans n1,hn.2.trans n2,Nat.le_trans he.1 (by omega),Nat.le_trans he.2 (by omega)⟩
end Go.Proofs.Ytnkkgofpifhoeaa.Pe
end
section
namespace Go.Proofs.Ytnkkgofpifhoeaa.Pe
open Go.RowKit Go.Proofs.Ytnkkgofpifhoeaa.Base Go.Proofs.Ytnkkgofpifhoeaa.Steps Go.Proofs.Ytnkkgofpifhoeaa.Lk Go.Proofs.YtnkkgofpifhoeaaW.PrintWords Go.Proofs.YtnkkgofpifhoeaaW.PrintLast
theorem info3:(Try.prog.info? 3).map (fun i => (i.zero,i.size,i.bytes)) = some (some (.int .i64 0),1,8):=by kernel_rfl
def GU (X:Ps):Nat → List Int
 | 0 => []
 | i + 1 => GU X i ++ (if X.has (i + 1) ∧ (X.pn (i + 1)).e.phase = 2 then [((i + 1:Nat):Int)] else [])
theorem ND (X:Ps):∀ i,(GU X i).length ≤ i
 | 0 => Nat.le_refl _
 | i + 1 => by
  have h:=ND X i
  unfold GU
  rw [List.length_append]
  split
  ·simp; omega
  ·simp; omega
theorem Wv {w:World} {B gp:Nat} {a:Ad} {own:Nat → Nat → Prop} {X:Ps} {v0:Value} (h:BX w B gp X.nodes a own X v0) (hn:X.nodes ≤ 64):Calls Try.prog 57 #[.pointer (some ⟨gp,0,none⟩)] w fun e w' => ∃ v,e = .returned v ∧ (Kd.int .i64).R 3 w' w.heap.size (fun _ => True) v (GU X X.nodes) ∧ Below w.heap.size w w':=by
 have hc2:w.cell? ⟨gp,2,none⟩ = some (.int .i64 X.nodes):=(AA h.blk 2).trans rfl
 have H:=Lib.hid h
 obtain ⟨N,hN⟩:∃ N,N = X.nodes:=⟨_,rfl⟩
 rw [← hN] at hn hc2
 rw [← hN]
 have jh:=Lib.hid hN
 clear h hN
 go_enter Try.func57,Try.ntmps57
 go_wp2_with fail
 go_loopg [13,3] N (fun m q v wr => ∃ i:Nat,m = N - i ∧ i ≤ N ∧ q = .int .i64 (i:Int) ∧ (Kd.int .i64).R 3 wr w.heap.size (fun _ => True) v (GU X i) ∧ Below w.heap.size w wr)
 case atStart => exact ⟨0,rfl,Nat.zero_le _,rfl,Kd.CZ _ _ _ _ _,Below.refl _ _⟩
 case round =>
  obtain ⟨wo,rfl⟩:∃ wo:World,wo = wr:=⟨_,rfl⟩
  obtain ⟨i,hm,hin,rfl,hR,hb⟩:=hrel
  have HM:=Lib.hid hm
  have U2:=Lib.hid hin
  have HR:=Lib.hid hR
  have HB:=Lib.hid hb
  obtain ⟨A0,c0,hv⟩:=Kd.BA hR
  have HLEN:=Lib.hid (ND X i)
  generalize hnl:(GU X i).length = nl at hv
  clear hnl
  subst hv
  have hP:=H.out.sub hb
  have hc3:wo.cell? ⟨gp,3,none⟩ = some (.map (some a.r)):=(AA hP.blk 3).trans rfl
  have hlk:=hP.map.look ((i:Int) + 1)
  have HP:=Lib.hid hP
  clear hm hin hR hb hP hc2
  by_cases hlt:i < N
  ·have hd:decide ((i:Int) < (N:Int)) = true:=by simp [hlt]
   by_cases hx:X.has (i + 1)
   ·rw [show X.at_ a ((i:Int) + 1) = some (a.gx (i + 1)) from Ps.IX hx] at hlk
    simp only [ptr,Option.isSome] at hlk
    have hx0:wo.cell? ⟨a.gx (i + 1),0,none⟩ = some (.pointer (some ⟨a.ge (i + 1),0,none⟩)):=(AA (HP.out.pk _ hx) 0).trans rfl
    have EO:=Lib.hid (phase_end (HP.out.e (i + 1) hx))
    have HX:=Lib.hid hx
    clear hx
    by_cases hp:(X.pn (i + 1)).e.phase = 2
    ·have hq:((X.pn (i + 1)).e.phase == 2) = true:=by simp [hp]
     have HP2:=Lib.hid hp
     clear hp
     go_wp2_with (first | (go_at_call 29; (have hc:=EO.out); (with_reducible refine hc.mono ?_); clear hc; rintro e w9 ⟨rfl,rfl⟩) | ((with_reducible refine AV (N:=39) rfl ?_); (refine Kd.Ej (W:=wo) (w0:=wo) (Kd.int .i64) w.heap.size rfl (.tmp 35) (.tmp 38) 101 3 (.int .i64 0) 8 rfl Try.underlying101 info3 rfl (by decide) (by decide) (.slice A0 nl c0) (GU X i) ((i + 1:Nat):Int) [.int .i64 ((i + 1:Nat):Int)] (fun _ => True) (fun _ => False) rfl rfl (show (Kd.int .i64).M _ _ _ _ _ from rfl) (fun _ h => h.elim) (fun _ _ => trivial) HR.out (Below.refl _ _) HB.out.size (by have:=HLEN.out; omega) ?_); (intro v1 w1 hR1 hb1 hg1 Em); (have HR1:=Lib.hid (show (Kd.int .i64).R 3 w1 w.heap.size (fun _ => True) v1 (GU X (i + 1)) from (by have e:GU X (i + 1) = GU X i ++ [((i + 1:Nat):Int)]:=(by show _ ++ _ = _; rw [if_pos ⟨HX.out,HP2.out⟩]); rw [e]; exact hR1))); (have HB1:=Lib.hid (HB.out.trans hb1)); (clear hR1 hb1 hg1 Em)))
     go_roundg (N - (i + 1))
     case measure => have:=HM.out; omega
     case rel => exact ⟨i + 1,rfl,by omega,by first | rfl | simp,HR1.out,HB1.out⟩
    ·have hq:((X.pn (i + 1)).e.phase == 2) = false:=by simp [hp]
     have e:GU X (i + 1) = GU X i:=by show _ ++ _ = _; rw [if_neg (fun h => hp h.2),List.append_nil]
     have HE:=Lib.hid e
     clear hp e
     go_wp2_with (go_at_call 29; (have hc:=EO.out); (with_reducible refine hc.mono ?_); clear hc; rintro e w9 ⟨rfl,rfl⟩)
     exact jv
   ·rw [Ps.Ja (X:=X) (a:=a) (k:=(i:Int) + 1) (fun hh => hx ⟨by omega,by have:=jh.out; omega,by omega⟩)] at hlk
    simp only [ptr,Option.isSome] at hlk
    have e:GU X (i + 1) = GU X i:=by show _ ++ _ = _; rw [if_neg (fun h => hx h.1),List.append_nil]
    have HE:=Lib.hid e
    clear hx e
    go_wp2_with fail
    exact jv
  ·have hd:decide ((i:Int) < (N:Int)) = false:=by simp; omega
   have hie:i = N:=by have:=U2.out; omega
   go_wp2_with fail
   go_ret
   exact ⟨_,rfl,hie ▸ HR.out,HB.out⟩
theorem Wx {wr:World} {B gp:Nat} {U:Nat → Prop} {X:Ps} (h:PW wr B gp U X) (hn:X.nodes ≤ 64):Calls Try.prog 57 #[.pointer (some ⟨gp,0,none⟩)] wr fun e w' => ∃ v,e = .returned v ∧ (Kd.int .i64).R 3 w' wr.heap.size (fun _ => True) v (GU X X.nodes) ∧ Below wr.heap.size wr w':=by
 obtain ⟨a,own,v,h1,h2⟩:=h.at_
 exact Wv h1 hn
end Go.Proofs.Ytnkkgofpifhoeaa.Pe
end
section
namespace Go.Proofs.Ytnkkgofpifhoeaa.Pe
open Go.RowKit Go.Proofs.Ytnkkgofpifhoeaa.Base Go.Proofs.Ytnkkgofpifhoeaa.Steps Go.Proofs.Ytnkkgofpifhoeaa.Lk Go.Proofs.YtnkkgofpifhoeaaW.PrintWords
structure TW (w0:World) (Ba ga Bb gb:Nat) (V:Nat → Prop) (XA XB:Ps) (wr:World):Prop where
 ex:∃ UA UB,PW wr Ba ga UA XA ∧ PW wr Bb gb UB XB ∧ (∀ k,UA k → ¬ UB k) ∧ ∀ k,V k → k < wr.heap.size ∧ ¬ UA k ∧ ¬ UB k
 below:Below w0.heap.size w0 wr
 lo:w0.heap.size ≤ Ba ∧ w0.heap.size ≤ Bb
section
variable {w0 wr w':World} {Ba ga Bb gb:Nat} {V:Nat → Prop} {XA XB af sF:Ps} (h:TW w0 Ba ga Bb gb V XA XB wr)
include h
theorem TW.sub (hb:Below wr.heap.size wr w'):TW w0 Ba ga Bb gb V XA XB w':=by
 obtain ⟨UA,UB,h1,h2,h3,h4⟩:=h.ex
 exact ⟨⟨UA,UB,h1.sub hb,h2.sub hb,h3,fun k hk => ⟨Nat.lt_of_lt_of_le (h4 k hk).1 hb.size,(h4 k hk).2⟩⟩,h.below.trans (hb.mono h.below.size),h.lo⟩
theorem TW.less {V':Nat → Prop} (hV:∀ k,V' k → V k):TW w0 Ba ga Bb gb V' XA XB wr:=by
 obtain ⟨UA,UB,h1,h2,h3,h4⟩:=h.ex
 exact ⟨⟨UA,UB,h1,h2,h3,fun k hk => h4 k (hV k hk)⟩,h.below,h.lo⟩
end
theorem PZ {w0 wr:World} {Ba ga Bb gb:Nat} {V:Nat → Prop} {XA XB:Ps} (h:TW w0 Ba ga Bb gb V XA XB wr) (i k:Nat) (hi:XB.has i) (hk:XA.has k) (gA:GX XA) (gB:GX XB) (nA:XA.nodes ≤ 64) (nB:XB.nodes ≤ 64) (eA:XA.evs.length ≤ 900000) (eB:XB.evs.length ≤ 900000) :
  Calls Try.prog 52 #[.pointer (some ⟨ga,0,none⟩),.pointer (some ⟨gb,0,none⟩),.int .i64 i,.int .i64 k] wr fun e w' => ∃ v0 v1,e = .returned (.agg #[v0,v1]) ∧ (∃ A n c,v0 = .slice A n c) ∧ (∃ ok1,Fz.R 9 w' wr.heap.size ok1 v1 ((Bj XA XB i k).2.2.map Go.strOfNums)) ∧ TW w0 Ba ga Bb gb V (Bj XA XB i k).1.1 (Bj XA XB i k).2.1 w' ∧ Kept wr w' (fun k => ¬ V k):=by
 obtain ⟨UA,UB,h1,h2,h3,h4⟩:=h.ex
 refine (VA h1 h2 h3 i k hi hk gA gB nA nB eA eB (B0:=w0.heap.size) ⟨h.lo.1,h.lo.2,h.below.size⟩ h4).mono fun e w' hq => ?_
 obtain ⟨v0,v1,ok0,ok1,XY,XZ,he,hr0,hr1,g1,g2,g3,g4,g5,g6,g7⟩:=hq
 obtain ⟨A,c,hv⟩:=Kd.BA hr0
 exact ⟨v0,v1,he,⟨A,_,c,hv⟩,⟨ok1,hr1⟩,⟨⟨XY,XZ,g1,g2,g3,fun k hk => ⟨Nat.lt_of_lt_of_le (h4 k hk).1 g7,(g6 k hk).1,(g6 k hk).2.1⟩⟩,h.below.trans g5,h.lo⟩,⟨g7,fun k _ hn => (g6 k (Classical.not_not.1 hn)).2.2⟩⟩
end Go.Proofs.Ytnkkgofpifhoeaa.Pe
end
section
namespace Go.Proofs.Ytnkkgofpifhoeaa.Pe
open Go.RowKit Go.Proofs.Ytnkkgofpifhoeaa.Base Go.Proofs.Ytnkkgofpifhoeaa.Steps Go.Proofs.Ytnkkgofpifhoeaa.Lk Go.Proofs.YtnkkgofpifhoeaaW.PrintWords Go.Proofs.YtnkkgofpifhoeaaW.PrintLast
section
variable {w0 wr w':World} {Ba ga Bb gb:Nat} {V:Nat → Prop} {XA XB af sF:Ps}
theorem TW.turn (h:TW w0 Ba ga Bb gb V XA XB wr):TW w0 Bb gb Ba ga V XB XA wr:=by
 obtain ⟨UA,UB,h1,h2,h3,h4⟩:=h.ex
 exact ⟨⟨UB,UA,h2,h1,fun k hb ha => h3 k ha hb,fun k hk => ⟨(h4 k hk).1,(h4 k hk).2.2,(h4 k hk).2.1⟩⟩,h.below,h.lo.2,h.lo.1⟩
theorem Ib (h:TW w0 Ba ga Bb gb V XA XB wr):Calls Try.prog 53 #[.pointer (some ⟨ga,0,none⟩)] wr fun e w' => ∃ v V',e = .returned v ∧ UE.R 99 w' Ba V' v XA.evs ∧ TW w0 Ba ga Bb gb (fun k => V k ∨ V' k) { XA with evs:=[] } XB w' ∧ Kept wr w' (fun k => ¬ V k):=by
 obtain ⟨UA,UB,h1,h2,h3,h4⟩:=h.ex
 refine (Qg h1).mono fun e w' hq => ?_
 obtain ⟨v,Xi,U',he,hR,hd,hP,hU,hK,hb⟩:=hq
 refine ⟨v,fun k => Xi k ∧ k < w'.heap.size,he,Kd.Az (Kd.CG hR) (fun k hk => ⟨hk.1,hk.2.2.1⟩),⟨⟨U',UB,hP,h2.kept hK (fun k hb' hu => h3 k (hU k hu) hb'),fun k hu hb' => h3 k (hU k hu) hb',fun k hk => ?_⟩,h.below.trans (hb.mono h.lo.1),h.lo⟩,hK.mono (fun k hk hv => (h4 k hv).2.1 (hU k hk))⟩
 rcases hk with hk | ⟨hk,hl⟩
 ·exact ⟨Nat.lt_of_lt_of_le (h4 k hk).1 hK.1,fun hu => (h4 k hk).2.1 (hU k hu),(h4 k hk).2.2⟩
 ·exact ⟨hl,(hd k hk).2,fun hb' => h3 k (hd k hk).1 hb'⟩
theorem La (h:TW w0 Ba ga Bb gb V XA XB wr) (i:Nat) (hi:XA.has i) (hg:GX XA) (hl:XA.evs.length ≤ 1000000) (body:List Int) (A:Option Addr) (c:Nat) (hC:(Kd.int .u8).C wr A body.length body) :
  Calls Try.prog 51 #[.pointer (some ⟨ga,0,none⟩),.int .i64 i,.slice A body.length c] wr fun e w' => e = .returned (.int .i64 (Fb XA i body)) ∧ TW w0 Ba ga Bb gb V (Cj XA i body) XB w' ∧ Kept wr w' (fun k => ¬ V k):=by
 obtain ⟨UA,UB,h1,h2,h3,h4⟩:=h.ex
 refine (U8 h1 i hi hg hl body A c hC).mono fun e w' hq => ?_
 obtain ⟨he,g1,g2,g3⟩:=hq
 exact ⟨he,⟨⟨more UA wr w',UB,g1,h2.kept g2 (fun k hb ha => h3 k ha hb),fun k ha hb => ha.elim (fun x => h3 k x hb) (fun x => by have:=h2.lt k hb; omega),fun k hk => ⟨Nat.lt_of_lt_of_le (h4 k hk).1 g2.1,fun ha => ha.elim (h4 k hk).2.1 (fun x => by have:=(h4 k hk).1; omega),(h4 k hk).2.2⟩⟩,h.below.trans (g3.mono h.lo.1),h.lo⟩,g2.mono (fun k hk hv => (h4 k hv).2.1 hk)⟩
theorem Wy (h:TW w0 Ba ga Bb gb V XA XB wr) (hn:XA.nodes ≤ 64):Calls Try.prog 57 #[.pointer (some ⟨ga,0,none⟩)] wr fun e w' => ∃ v,e = .returned v ∧ (Kd.int .i64).R 3 w' wr.heap.size (fun _ => True) v (GU XA XA.nodes) ∧ TW w0 Ba ga Bb gb V XA XB w':=by
 obtain ⟨UA,UB,h1,h2,h3,h4⟩:=h.ex
 exact (Wx h1 hn).mono fun e w' ⟨v,he,hR,hb⟩ => ⟨v,he,hR,h.sub hb⟩
theorem NF (h:TW w0 Ba ga Bb gb V XA XB wr) (i:Nat) (hi:XA.has i):Calls Try.prog 54 #[.pointer (some ⟨ga,0,none⟩),.int .i64 i] wr fun e w' => e = .returned (.int .i64 (XA.pn i).e.phase) ∧ wr = w':=by
 obtain ⟨UA,UB,h1,h2,h3,h4⟩:=h.ex
 exact TP h1 i hi
theorem Jl (h:TW w0 Ba ga Bb gb V XA XB wr) (i:Nat) (hi:XA.has i):Calls Try.prog 55 #[.pointer (some ⟨ga,0,none⟩),.int .i64 i] wr fun e w' => e = .returned (.int .i64 (XA.pn i).e.queue.length) ∧ wr = w':=by
 obtain ⟨UA,UB,h1,h2,h3,h4⟩:=h.ex
 exact TQ h1 i hi
end
def W9:Int × Bool:=(0,false)
theorem Jm {w:World} {b:Nat} {ok:Nat → Prop} {A:Option Addr} {m c:Nat} {L:List (Int × Bool)} (h:UE.R 99 w b ok (.slice A m c) L) (n:Nat) (hn:n < m) :
  ∃ g,A = some ⟨g,0,none⟩ ∧ w.cell? ⟨g,n * 2,none⟩ = some (.int .i64 (L.getD n W9).1) ∧ w.cell? ⟨g,n * 2 + 1,none⟩ = some (.bool (L.getD n W9).2):=by
 obtain ⟨hl,hnc,hC⟩:=Kd.Dx h
 obtain ⟨gx,cap,he,_⟩:=Kd.KZ h (by omega)
 injection he with h1 h2 h3
 subst h1
 obtain ⟨cs,hcl,hM,hc,_⟩:=Kd.Kq h W9 (n:Int) (by omega) (by omega)
 rw [Int.toNat_natCast] at hM hc
 obtain ⟨c1,c2,hcs,e1,e2⟩:=hM
 subst e1
 subst e2
 subst hcs
 exact ⟨gx,rfl,hc 0 _ rfl,hc 1 _ rfl⟩
theorem Pg (w w1 w2:World) {ga gb:Nat} {XA XB:Ps} (hA:PW w1 w.heap.size ga (fun k => w.heap.size ≤ k ∧ k < w1.heap.size) XA) (hb1:Below w.heap.size w w1) (hB:PW w2 w1.heap.size gb (fun k => w1.heap.size ≤ k ∧ k < w2.heap.size) XB) (hb2:Below w1.heap.size w1 w2):TW w w.heap.size ga w1.heap.size gb (fun _ => False) XA XB w2 :=
 ⟨⟨_,_,hA.sub hb2,hB,fun k h1 h2 => by omega,fun k hk => hk.elim⟩,hb1.trans (hb2.mono hb1.size),Nat.le_refl _,hb1.size⟩
def al (n:Nat):Ps × Ps:=iter (fresh 1 1 2) (fresh 2 1 2) 1 2 n
theorem Td (n:Nat):GX (al n).1 ∧ GX (al n).2 ∧ (al n).1.has 2 ∧ (al n).2.has 1 ∧ (al n).1.nodes = 2 ∧ (al n).2.nodes = 2 ∧ (al n).1.evs.length ≤ 0 + 2048 * n ∧ (al n).2.evs.length ≤ 0 + 2048 * n:=NC (GR 1 2) (GR 2 2) (by decide) (by decide) n
theorem JE {X:Ps} {l:List (Int × Bool)} {k:Nat} (h:X.has k):Ps.has { X with evs:=l } k:=h
theorem Tf {X:Ps} {l:List (Int × Bool)} (h:GX X):GX { X with evs:=l }:=h
def XC:Ps:=Cj { (al 5).1 with evs:=[] } 2 [120]
theorem XD:(al 5).1.evs = [(2,true)] ∧ (al 5).2.evs = [(1,true)] ∧ Fb { (al 5).1 with evs:=[] } 2 [120] = 0 ∧ GU XC 2 = [2] ∧ (XC.pn 2).e.phase = 2 ∧ (XC.pn 2).e.queue.length = 1 ∧ XC.nodes = 2 ∧ XC.me = 1:=by decide +kernel
theorem VE (w:World):Calls Try.prog 49 #[] w fun e w' => e = .returned (.bool true) ∧ Below w.heap.size w w':=by
 go_enter Try.func49,Try.ntmps49
 go_wp2_with (first | (go_at_call 50; (have hz:Calls Try.prog 50 #[.int .i64 1,.int .i64 2,.int .u32 1] w _:=LY 1 2 (by decide) (by decide) w); (with_reducible refine hz.mono ?_); clear hz; rintro e w1 ⟨ga,rfl,Yg,hb1⟩; (have Wl:=Lib.hid Yg); (have HB1:=Lib.hid hb1); (clear Yg hb1)) | (go_at_call 50; (have hz:Calls Try.prog 50 #[.int .i64 2,.int .i64 2,.int .u32 1] w1 _:=LY 2 2 (by decide) (by decide) w1); (with_reducible refine hz.mono ?_); clear hz; rintro e w2 ⟨gb,rfl,Yh,hb2⟩; (have HT0:=Lib.hid (Pg w w1 w2 Wl.out HB1.out Yh hb2)); (clear Yh hb2)))
 generalize w1.heap.size = Bb at *
 go_loopw [5] (fun u wr => ∃ m:Nat,m ≤ 5 ∧ u = .int .i64 (m:Int) ∧ TW w w.heap.size ga Bb gb (fun _ => False) (al m).1 (al m).2 wr) (fun u wr => 5 - (intOf u).toNat)
 case atStart => exact ⟨0,by decide,rfl,HT0.out⟩
 case round =>
  obtain ⟨m,hm,rfl,hT⟩:=hrel
  have HT:=Lib.hid hT
  clear hT HT0 Wl HB1
  by_cases hlt:m < 5
  ·have hd:decide ((m:Int) < 5) = true:=by simp; omega
   have hv:=Td m
   have HC:=Lib.hid (show Calls Try.prog 52 #[.pointer (some ⟨ga,0,none⟩),.pointer (some ⟨gb,0,none⟩),.int .i64 1,.int .i64 2] wr _ from PZ HT.out 1 2 hv.2.2.2.1 hv.2.2.1 hv.1 hv.2.1 (by rw [hv.2.2.2.2.1]; decide) (by rw [hv.2.2.2.2.2.1]; decide) (by have:=hv.2.2.2.2.2.2.1; omega) (by have:=hv.2.2.2.2.2.2.2; omega))
   clear hv
   go_wp2_with (go_at_call 52; (have hc:=HC.out); (with_reducible refine hc.mono ?_); clear hc; rintro e w5 ⟨v0,v1,rfl,-,hr,VS,hk5⟩; (have gX:=Lib.hid VS); (clear hr VS hk5))
   go_roundw
   case rel => exact ⟨m + 1,by omega,by go_num,gX.out⟩
   case measure => simp [intOf]; omega
  ·have hd:decide ((m:Int) < 5) = false:=by simp; omega
   have hme:m = 5:=by omega
   subst hme
   have hv:=Td 5
   have HV:=Lib.hid hv
   have HE:=Lib.hid XD
   clear hv
   have hconv:=fun W => Lib.run_convert_bytes_const (P:=Try.prog) W 22 5 #[.int .u8 120] 1 1 Try.underlying22 Try.underlying5
   go_wp2_with (first | (go_at_call 53; (have hc:=Ib HT.out); (with_reducible refine hc.mono ?_); clear hc; rintro e w6 ⟨v,V6,rfl,hR,UK,hK6⟩; (rw [HE.out.1] at hR); (obtain ⟨A6,c6,hv6⟩:=Kd.BA hR); (rw [show ([((2:Int),true)]:List (Int × Bool)).length = 1 from rfl] at hv6); (subst hv6); (have Yi:=Lib.hid hR); (have gY:=Lib.hid UK); (clear hR UK hK6)) | (go_at_call 53; (have hc:=Ib gY.out.turn); (with_reducible refine hc.mono ?_); clear hc; rintro e w7 ⟨v,V7,rfl,hR,Qp,hK7⟩; (rw [HE.out.2.1] at hR); (obtain ⟨A7,c7,hv7⟩:=Kd.BA hR); (rw [show ([((1:Int),true)]:List (Int × Bool)).length = 1 from rfl] at hv7); (subst hv7); (have kF:=Lib.hid hR); (have Yj:=Lib.hid (Kd.BJ Yi.out hK7 (fun k hk hn => hn (.inr hk)))); (have aY:=Lib.hid Qp.turn); (clear hR Qp hK7 Yi)))
   have hb8:Below w7.heap.size w7 (w7.alloc (.cells #[.int .u8 120] 5 (1,2))):=(Below.refl _ _).alloc (Nat.le_refl _) _
   have HS:=Lib.hid (La (aY.out.sub hb8) 2 (JE HV.out.2.2.1) (Tf HV.out.1) (Nat.zero_le _) [120] (some ⟨w7.heap.size,0,none⟩) 1 (TL w7))
   have Yi:=Lib.hid (Kd.Dk Yj.out hb8)
   have kG:=Lib.hid (Kd.Dk kF.out hb8)
   clear Yj kF gY aY HT hb8 hconv
   refine (show Calls Try.prog 51 #[.pointer (some ⟨ga,0,none⟩),.int .i64 2,.slice (some ⟨w7.heap.size,0,none⟩) 1 1] (w7.alloc (.cells #[.int .u8 120] 5 (1,2))) _ from HS.out).mono ?_
   rintro e w9 ⟨rfl,gZ,hK9⟩
   have h6:=Kd.BJ Yi.out hK9 (fun k hk hn => hn (.inl (.inr hk)))
   have h7:=Kd.BJ kG.out hK9 (fun k hk hn => hn (.inr hk))
   obtain ⟨g6,Gi,kH,Yk⟩:=Jm h6 0 (by decide)
   obtain ⟨g7,QL,kJ,sG⟩:=Jm h7 0 (by decide)
   subst Gi QL
   have a0:w9.cell? ⟨g6,0,none⟩ = some (.int .i64 2):=kH
   have a1:w9.cell? ⟨g6,1,none⟩ = some (.bool true):=Yk
   have b0:w9.cell? ⟨g7,0,none⟩ = some (.int .i64 1):=kJ
   rw [show Cj { (al 5).1 with evs:=[] } 2 [120] = XC from rfl] at gZ
   have Wu:=Lib.hid gZ
   have hup:=Wy Wu.out (by rw [HE.out.2.2.2.2.2.2.1]; decide)
   rw [HE.out.2.2.2.2.2.2.1,HE.out.2.2.2.1] at hup
   have sH:=Lib.hid hup
   have kK:XC.has 2:=⟨by decide,by rw [HE.out.2.2.2.2.2.2.1]; decide,by rw [HE.out.2.2.2.2.2.2.2]; decide⟩
   have kL:=Lib.hid kK
   rw [HE.out.2.2.1]
   clear gZ hK9 h6 h7 kH Yk kJ sG hup kK HS Yi kG
   go_wp2_with (first | (go_at_call 57; (have hc:=sH.out); (with_reducible refine hc.mono ?_); clear hc; rintro e w10 ⟨v,rfl,hR,VF⟩; (obtain ⟨uO,c10,Yl⟩:=Kd.BA hR); (rw [show ([(2:Int)]:List Int).length = 1 from rfl] at Yl); (subst Yl); (have gm:=Lib.hid (NF VF 2 kL.out)); (have gu:=Lib.hid (Jl VF 2 kL.out)); (have sJ:=Lib.hid VF.below); (clear hR VF)) | (go_at_call 54; (refine (show Calls Try.prog 54 #[.pointer (some ⟨ga,0,none⟩),.int .i64 2] w10 _ from gm.out).mono ?_); rintro e FO ⟨rfl,rfl⟩; (rw [HE.out.2.2.2.2.1])) | (go_at_call 55; (refine (show Calls Try.prog 55 #[.pointer (some ⟨ga,0,none⟩),.int .i64 2] w10 _ from gu.out).mono ?_); rintro e FO ⟨rfl,rfl⟩; (rw [HE.out.2.2.2.2.2.1])))
   go_ret
   exact ⟨rfl,sJ.out⟩
end Go.Proofs.Ytnkkgofpifhoeaa.Pe
end
