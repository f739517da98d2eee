/- What the laws of a pair are proved with: links and pairs in memory, what their methods do, what a pair keeps to (part 26). -/
import Derived.Test.YtnkkgofpifhoeaaPG25
import Derived.Deep.LoopGhost
import Derived.Laws.StructEq
import Derived.Deep.MidRow
import Derived.ArgAppend
import Derived.LoopN
set_option linter.unusedSimpArgs false
set_option linter.unusedVariables false
set_option maxRecDepth 100000
set_option maxHeartbeats 16000000
namespace Go.Proofs.Ytnkkgofpifhoeaa
theorem qp {p:Prop} (h:p:=by
 go_roundg (N - (i + 1))
 case measure => have:=HM.out; omega
 case rel => exact ⟨i + 1,rfl,by omega,by first | rfl | simp,by rw [HE.out]; exact HR.out,HB.out⟩):p:=h
end Go.Proofs.Ytnkkgofpifhoeaa
section
namespace Go.Proofs.Ytnkkgofpifhoeaa.Pe
open Go.RowKit Go.Proofs.Ytnkkgofpifhoeaa.Base Go.Proofs.Ytnkkgofpifhoeaa.Steps Go.Proofs.Ytnkkgofpifhoeaa.Lk Go.Proofs.YtnkkgofpifhoeaaW.PrintWords Go.Proofs.YtnkkgofpifhoeaaW.PrintLast
def DF (XA XB:Ps) (i k:Nat):(Ps × List (List Int)) × (Ps × List (List Int)) :=
 (En k (Be XA XA.nodes,[]) ((En i (XB,[]) (XA.pn k).e.out).1.pn i).e.out,(Be (En i (XB,[]) (XA.pn k).e.out).1 (En i (XB,[]) (XA.pn k).e.out).1.nodes,(En i (XB,[]) (XA.pn k).e.out).2))
theorem Ho {i j:Nat} {s:Ps × List (List Int)} {ps:List BJ} (h:s.1.has j):(En i s ps).1.has j:=by
 have hs:=DW i s ps
 unfold Ps.has
 rw [hs.1,hs.2.1]
 exact h
theorem MO {X:Ps} (h:GX X):GX (Be X X.nodes):=fun k hk => by
 have hs:=BR X X.nodes
 have hx:X.has k:=by unfold Ps.has at hk ⊢; rwa [hs.2.1,hs.2.2.1] at hk
 rw [Hg X X.nodes k hx.2.1 hx]
 exact ⟨Ur (h k hx).1,Yg (h k hx).2⟩
theorem Wl {w:World} {B0 Ba ga Bb gb:Nat} {V UA UB:Nat → Prop} {XA XB:Ps} (hA:PW w Ba ga UA XA) (hB:PW w Bb gb UB XB) (hap:∀ k,UA k → ¬ UB k) (i k:Nat) (hi:XB.has i) (hk:XA.has k) (gA:GX XA) (gB:GX XB) (nA:XA.nodes ≤ 64) (nB:XB.nodes ≤ 64) (eA:XA.evs.length ≤ 900000) (eB:XB.evs.length ≤ 900000) (h0:B0 ≤ Ba ∧ B0 ≤ Bb ∧ B0 ≤ w.heap.size) (hV:∀ r,V r → r < w.heap.size ∧ ¬ UA r ∧ ¬ UB r) :
  Calls Try.prog 52 #[.pointer (some ⟨ga,0,none⟩),.pointer (some ⟨gb,0,none⟩),.int .i64 i,.int .i64 k] w fun e w' => ∃ v0 v1 ok0 ok1 ZO ZP,e = .returned (.agg #[v0,v1]) ∧ KY.R 9 w' w.heap.size ok0 v0 ((DF XA XB i k).1.2.map Go.strOfNums) ∧ KY.R 9 w' w.heap.size ok1 v1 ((DF XA XB i k).2.2.map Go.strOfNums) ∧ PW w' Ba ga ZO (DF XA XB i k).1.1 ∧ PW w' Bb gb ZP (DF XA XB i k).2.1 ∧ (∀ r,ZO r → ¬ ZP r) ∧ (∀ r,ok1 r → ¬ ZO r ∧ ¬ ZP r) ∧ Below B0 w w' ∧ (∀ r,V r → ¬ ZO r ∧ ¬ ZP r ∧ w'.heap[r]? = w.heap[r]?) ∧ w.heap.size ≤ w'.heap.size:=by
 have H0:=Lib.hid h0
 have zU:=Lib.hid hap
 have zV:=Lib.hid hi
 have l7:=Lib.hid hk
 have GA:=Lib.hid gA
 have GB:=Lib.hid gB
 have NA:=Lib.hid nA
 have NB:=Lib.hid nB
 have EA:=Lib.hid eA
 have EB:=Lib.hid eB
 obtain ⟨g8,ig⟩:∃ g8,g8 = w.heap.size:=⟨_,rfl⟩
 obtain ⟨g9,mD⟩:∃ g9,g9 = w.heap.size + 1:=⟨_,rfl⟩
 obtain ⟨w2,hw2⟩:∃ w2,w2 = (w.alloc (.cells Wj 94)).alloc (.cells Wj 94):=⟨_,rfl⟩
 have hs1:(w.alloc (.cells Wj 94)).heap.size = w.heap.size + 1:=by simp
 have hb2:Below w.heap.size w w2:=hw2 ▸ ((Below.refl _ _).alloc (Nat.le_refl _) _).alloc (by simp) _
 have h8:w2.heap[g8]? = some (.cells Wj 94 (0,0)):=by rw [hw2,ig]; exact (Below.heap_alloc _ _ _ (by simp)).trans (heap_alloc_new w _)
 have h9:w2.heap[g9]? = some (.cells Wj 94 (0,0)):=by rw [hw2,mD,← hs1]; exact heap_alloc_new _ _
 have HA2:=Lib.hid (hA.sub hb2)
 have HB2:=Lib.hid (hB.sub hb2)
 have H8:=Lib.hid h8
 have H9:=Lib.hid h9
 have qw:=Lib.hid (show B0 ≤ g9 from by omega)
 have bD:=Lib.hid (show g9 ≠ g8 ∧ ∀ r,r = g9 ∨ r = g8 → ¬ UA r ∧ ¬ UB r from ⟨by omega,fun r hr => ⟨fun hu => by have:=hA.lt r hu; rcases hr with hr | hr <;> omega,fun hu => by have:=hB.lt r hu; rcases hr with hr | hr <;> omega⟩⟩)
 have NL:=Lib.hid hb2
 have HV:=Lib.hid (show ∀ r,V r → r < w2.heap.size ∧ ¬ UA r ∧ ¬ UB r ∧ r ≠ g9 ∧ r ≠ g8 ∧ w2.heap[r]? = w.heap[r]? from fun r hr => by
  have h1:=hV r hr
  have h2:=hb2.size
  exact ⟨by omega,h1.2.1,h1.2.2,by omega,by omega,hb2.block r h1.1⟩)
 have HO:=Lib.hid (Pm HA2.out nA gA)
 have zW:=Lib.hid (gA.wire k hk)
 have zX:=Lib.hid (gA.len k hk)
 clear hA hB hap hi hk gA gB nA nB eA eB h0 h8 h9 hb2 hV
 simp only [Wj] at hw2
 go_enter Try.func52,Try.ntmps52
 go_wp2_with fail
 rw [← hw2,← mD,← ig]
 refine HO.out.mono ?_
 rintro e w3 ⟨x1,rfl,hR,hP,hK,hbl⟩
 obtain ⟨A1,c1,hx1⟩:=Kd.Am hR
 have Wn:=Lib.hid (show (DC XA XA.nodes).length ≤ 100000 from by have h1:=Gf GA.out.len XA.nodes; have h2:=NA.out; omega)
 obtain ⟨L1,hL1⟩:∃ L1,L1 = DC XA XA.nodes:=⟨_,rfl⟩
 rw [← hL1] at hR hx1 Wn
 obtain ⟨VX,Yq⟩:∃ VX,VX = L1.length:=⟨_,rfl⟩
 rw [← Yq] at hx1 Wn
 have bF:=Lib.hid Yq.symm
 subst hx1
 obtain ⟨pA,hpA⟩:∃ pA,pA = (XA.pn k).e.out:=⟨_,rfl⟩
 have mF:w.heap.size ≤ w2.heap.size:=NL.out.size
 obtain ⟨mG,hS0⟩:=SX.start (b:=w.heap.size) HB2.out zU.out HA2.out.lt H9.out H8.out bD.out.1 bD.out.2 hP hK hR mF HV.out
 have bG:=Lib.hid (show LP V w B0 w.heap.size Ba ga Bb gb g9 g8 (Be XA XA.nodes) i k (XB,[]) pA (.slice A1 VX c1) L1 (.slice none 0 0) [] (fun v => #[.slice none 0 0,v]) 0 w3 from ⟨0,.slice none 0 0,mG,hS0,(by rw [List.drop_zero,List.drop_zero,hL1,MN,if_pos ⟨l7.out.2.1,l7.out⟩,hpA]),Nat.zero_le _,((NL.out.mono H0.out.2.2).trans (hbl.mono H0.out.1)),Nat.le_trans mF hK.1⟩)
 have Yr:=Lib.hid (show ∀ p ∈ pA,JX p ∧ True from hpA ▸ zW.out)
 have mJ:=Lib.hid (show pA.length ≤ 1024 from hpA ▸ zX.out)
 have mM:=Lib.hid (show GX (XB,([]:List (List Int))).1 from GB.out)
 have mO:=Lib.hid (show (XB,([]:List (List Int))).1.evs.length ≤ 900000 from EB.out)
 have bH:=Lib.hid (show (XB,([]:List (List Int))).1.has i from zV.out)
 have mP:=Lib.hid (show (XB,([]:List (List Int))).1.nodes ≤ 64 from NB.out)
 have Yt:=Lib.hid hpA
 have lW:=Lib.hid ig
 have zY:=Wn.out
 clear hR hP hK hbl Yq hL1 hS0 hpA mF HO HA2 HB2 H8 H9 hw2 ig mD NL
 go_wp2_with fail
 go_loopw [11] (fun u wr => ∃ m:Nat,m ≤ VX ∧ u = .int .i64 (m:Int) ∧ LP V w B0 w.heap.size Ba ga Bb gb g9 g8 (Be XA XA.nodes) i k (XB,[]) pA (.slice A1 VX c1) L1 (.slice none 0 0) [] (fun v => #[.slice none 0 0,v]) m wr) (fun u wr => VX - (intOf u).toNat)
 case atStart => exact ⟨0,Nat.zero_le _,rfl,bG.out⟩
 case round =>
  obtain ⟨wo,rfl⟩:∃ wo:World,wo = wr:=⟨_,rfl⟩
  obtain ⟨m,hm,rfl,hF⟩:=hrel
  have HF:=Lib.hid hF
  have HM:=Lib.hid hm
  have XQ:=Wn.out
  clear hF bG hm
  by_cases hlt:m < VX
  ·have hd:decide ((m:Int) < (VX:Int)) = true:=by simp [hlt]
   have Yu:m < L1.length:=by rw [bF.out]; exact hlt
   have mQ:=Lib.hid Yu
   obtain ⟨q,v,col,hS,hfil,hq,hb0,hbb⟩:=HF.out
   obtain ⟨gx,Ab,cb,hAx,-,k0,k1,hlen,hC⟩:=LM hS.x m hlt
   subst hAx
   by_cases hto:((L1.getD m IA).1 == (k:Int)) = true
   ·obtain ⟨Ld,hxe,Nv⟩:=VA hfil Yu hto
    rw [hxe] at k0 k1 hlen hC
    have hmem:pA.getD q Ir ∈ pA:=by rw [List.getD_eq_getElem?_getD,List.getElem?_eq_getElem Ld]; exact List.getElem_mem _
    have hwk:=Yr.out _ hmem
    have htk:pA.take (q + 1) = pA.take q ++ [pA.getD q Ir]:=by rw [List.take_add_one,List.getElem?_eq_getElem Ld,List.getD_eq_getElem?_getD,List.getElem?_eq_getElem Ld]; rfl
    have hsn:=Nu i (XB,[]) (pA.take q) (pA.getD q Ir)
    rw [← htk] at hsn
    have hgl:=Qk i (XB,[]) (pA.take q)
    have hes:=DW i (XB,[]) (pA.take q)
    have hpl:=mJ.out
    have hy:=hS.y
    have VW:GX (En i (XB,[]) (pA.take q)).1:=JE i mM.out (fun p hp => (Yr.out p (List.mem_of_mem_take hp)).1.good)
    have hco:=Qj hy i (Ho bH.out) (by rw [hes.2.1]; exact mP.out) VW (Nat.le_trans hes.2.2 (by rw [List.length_take]; have h2:=mO.out; simp only at h2 ⊢; omega)) hwk.1 Ab cb hC hlen
    have mV:=Lib.hid (show (En i (XB,[]) (pA.take q)).2.length ≤ 100000 from Nat.le_trans hgl (by rw [List.length_take]; simp only [List.length_nil]; omega))
    have Nw:=Lib.hid Nv
    have HQ:=Lib.hid Ld
    have bI:=Lib.hid hsn
    have HS:=Lib.hid hS
    have HB0:=Lib.hid hb0
    have bJ:=Lib.hid hbb
    generalize pA.getD q Ir = p at *
    generalize hY:En i (XB,[]) (pA.take q) = sY at *
    generalize hbd:(BM (sY.1.pn i).e 1 p).2.body = bd at *
    have JU:=Lib.hid hbd
    generalize hnb:bd.length = nb at *
    have VB:=Lib.hid hnb
    have bK:=Lib.hid hco
    clear hto hxe hmem hwk htk hsn hgl hes hpl hy VW hco hfil Nv hq Ld hS hb0 hbb hC hlen hY hbd hnb
    have Pq:((k:Int) == (k:Int)) = true:=by simp
    by_cases hz:nb = 0
    ·have hg:decide ((nb:Int) > 0) = false:=by simp; omega
     have hz1:bd.length = 0:=by rw [VB.out]; exact hz
     have HZ1:=Lib.hid hz1
     subst hz
     go_wp2_with (go_at_call 94; (have hc:=bK.out); (with_reducible refine hc.mono ?_); clear hc; rintro e w5 ⟨A7,c7,rfl,Wp,VC,hK7,VD⟩; (have Qm:=Lib.hid (show LP V w B0 w.heap.size Ba ga Bb gb g9 g8 (Be XA XA.nodes) i k (XB,[]) pA _ L1 (.slice none 0 0) [] (fun v => #[.slice none 0 0,v]) (m + 1) w5 from ⟨q + 1,v,_,(by rw [bI.out]; unfold Po; rw [JU.out,HZ1.out,if_pos rfl,List.append_nil]; exact HS.out.take VC hK7),Nw.out,HQ.out,HB0.out.trans (VD.mono H0.out.2.1),Nat.le_trans bJ.out hK7.1⟩)); (clear Wp VC hK7 VD))
     go_roundw
     case rel => exact ⟨m + 1,by omega,by go_num,Qm.out⟩
     case measure => simp [intOf]; omega
    ·have hg:decide ((nb:Int) > 0) = true:=by simp; omega
     have hz1:¬ bd.length = 0:=by rw [VB.out]; exact hz
     have HZ1:=Lib.hid hz1
     clear hz1
     go_wp2_with (first | (go_at_call 94; (have hc:=bK.out); (with_reducible refine hc.mono ?_); clear hc; rintro e w5 ⟨A7,c7,rfl,Wp,VC,hK7,VD⟩; (have hS5:=HS.out.take VC hK7); (have Hy:=Lib.hid (HB0.out.trans (VD.mono H0.out.2.1))); (have VE:=Lib.hid (Nat.le_trans bJ.out hK7.1)); (obtain ⟨A3,c3,hv3⟩:=Kd.Am hS5.g); (generalize mW:(List.map Go.strOfNums sY.2).length = nv at hv3); (clear mW); (subst hv3); (have kv:w5.cell? ⟨g9,1,none⟩ = some (.slice A3 nv c3):=(AA hS5.a9 1).trans rfl); (have hcv:=Kd.Mc (P:=Try.prog) (dst:=9) (c:=c7) Try.underlying22 Try.underlying5 Try.underlying9 Wp); (have SG:=Lib.hid hS5); (clear Wp VC hK7 VD hS5)) | ((with_reducible refine AV (N:=52) rfl ?_); (refine Kd.Fq (W:=w5) (w0:=w5) KY w.heap.size rfl (.tmp 48) (.tmp 51) 74 9 (.string ⟨#[]⟩) 16 rfl Try.underlying74 info9 rfl (by decide) (by decide) (.slice A3 nv c3) (sY.2.map Go.strOfNums) (Go.strOfNums bd) [.string (Go.strOfNums bd)] (fun r => grow col 1 wo w5 3 r ∨ w5.heap.size ≤ r) (fun _ => False) rfl rfl (show Kd.M KY _ _ _ (Go.strOfNums bd) [.string (Go.strOfNums bd)] from rfl) (fun _ h => h.elim) (fun _ hr => .inr hr) (Kd.Az SG.out.g (fun _ h => .inl h)) (Below.refl _ _) VE.out (by have:=mV.out; rw [List.length_map]; omega) ?_); (intro v1 w6 Yv hb6 Q7 Yw); (have hk6:Kept w5 w6 (grow col 1 wo w5 3):=Kept.Fz Q7 (Kept.refl w5 _) (fun r hr => .inl (SG.out.g.1 r hr))); (have Ql:=Ai SG.out.a9 hk6 (fun hx => absurd (SG.out.Dn 5 3 _ SG.out.c9 hx) (by decide))); (have zZ:w6.cell? ⟨g9,1,none⟩ = some (.slice A3 nv c3):=(AA Ql 1).trans rfl); (have zf:=AB Ql 1); (obtain ⟨A6,c6,hv6⟩:=Kd.Am Yv); (generalize Yx:(List.map Go.strOfNums sY.2 ++ [Go.strOfNums bd]).length = mX at hv6); (clear Yx); (subst hv6); (have mY:=Lib.hid (SG.out.app (j:=1) hk6 Yv rfl)); (have Sl:=Lib.hid (hb6)); (have mZ:=Lib.hid hk6.1); (clear Yv hb6 Q7 Yw hk6 Ql kv)))
     go_roundw
     case rel =>
      refine ⟨m + 1,by omega,by go_num,q + 1,.slice A6 mX c6,grow (grow col 1 wo w5) 3 w5 w6,?_,Nw.out,HQ.out,(Hy.out.trans (Sl.out.mono H0.out.2.2)).setCell (p:=⟨g9,1,none⟩) qw.out _,?_⟩
      ·rw [bI.out]
       unfold Po
       rw [JU.out,if_neg HZ1.out,List.map_append]
       exact mY.out
      ·have h1:=VE.out
       have h2:=mZ.out
       simp [World.setCell]
       omega
     case measure => simp [intOf]; omega
   ·have Pq:((L1.getD m IA).1 == (k:Int)) = false:=by simpa using hto
    have mg:=Lib.hid Pq
    have HN:=Lib.hid (HF.out.next Yu Pq)
    clear hto hfil hq hS hb0 hbb hC hlen mg
    generalize L1.getD m IA = xo at *
    go_wp2_with fail
    go_roundw
    case rel => exact ⟨m + 1,by omega,by go_num,HN.out⟩
    case measure => simp [intOf]; omega
  ·have hd:decide ((m:Int) < (VX:Int)) = false:=by simp; omega
   have hme:m = VX:=by have:=HM.out; omega
   subst hme
   obtain ⟨q,v9,zg,hS,hfil,hq,hb0,hbb⟩:=HF.out
   have hqe:pA.take q = pA:=by
    rw [← bF.out,List.drop_length] at hfil
    have h2:Fg k (pA.drop q) = []:=hfil.symm
    unfold Fg at h2
    rw [List.map_eq_nil_iff] at h2
    exact List.take_of_length_le (List.drop_eq_nil_iff.1 h2)
   rw [hqe] at hS
   obtain ⟨s1,hs1⟩:∃ s1,s1 = En i (XB,[]) pA:=⟨_,rfl⟩
   rw [← hs1] at hS
   have hds:=DW i (XB,[]) pA
   rw [← hs1] at hds
   have hg1:GX s1.1:=by rw [hs1]; exact JE i (s:=(XB,[])) GB.out (fun p hp => (Yr.out p hp).1.good)
   have hh1:s1.1.has i:=by rw [hs1]; exact Ho bH.out
   have qx:=Lib.hid hS
   have nC:=Lib.hid hb0
   have bM:=Lib.hid hbb
   have iU:=Lib.hid hs1
   have qy:=Lib.hid (Pm hS.y (by rw [hds.2.1]; exact NB.out) hg1)
   have Yy:=Lib.hid (show ∀ p ∈ (s1.1.pn i).e.out,JX p ∧ True from hg1.wire i hh1)
   have Ru:=Lib.hid (show (s1.1.pn i).e.out.length ≤ 1024 from hg1.len i hh1)
   have rC:=Lib.hid hh1
   have zh:=Lib.hid hg1
   have zk:=Lib.hid (show s1.1.nodes ≤ 64 from by rw [hds.2.1]; exact NB.out)
   have hos:=BR XA XA.nodes
   have nD:=Lib.hid (show GX (Be XA XA.nodes,([]:List (List Int))).1 from MO GA.out)
   have nG:=Lib.hid (show (Be XA XA.nodes,([]:List (List Int))).1.evs.length ≤ 900000 from by show (Be XA XA.nodes).evs.length ≤ _; rw [hos.2.2.2]; exact EA.out)
   have nH:=Lib.hid (show (Be XA XA.nodes,([]:List (List Int))).1.nodes ≤ 64 from by show (Be XA XA.nodes).nodes ≤ 64; rw [hos.2.2.1]; exact NA.out)
   have nI:=Lib.hid (show (Be XA XA.nodes,([]:List (List Int))).1.has k from by unfold Ps.has; rw [hos.2.1,hos.2.2.1]; exact l7.out)
   clear hS hfil hq hb0 hbb hqe hs1 hds hg1 hh1 hos HF XQ
   go_wp2_with fail
   refine qy.out.mono ?_
   rintro e w7 ⟨x2,rfl,hR,hP,hK,hbl⟩
   obtain ⟨A2,c2,hx2⟩:=Kd.Am hR
   have Wq:=Lib.hid (show (DC s1.1 s1.1.nodes).length ≤ 100000 from by have h1:=Gf zh.out.len s1.1.nodes; have h2:=zk.out; omega)
   obtain ⟨L2,hL2⟩:∃ L2,L2 = DC s1.1 s1.1.nodes:=⟨_,rfl⟩
   rw [← hL2] at hR hx2 Wq
   obtain ⟨VY,Yz⟩:∃ VY,VY = L2.length:=⟨_,rfl⟩
   rw [← Yz] at hx2 Wq
   have bP:=Lib.hid Yz.symm
   subst hx2
   obtain ⟨pB,iq⟩:∃ pB,pB = (s1.1.pn i).e.out:=⟨_,rfl⟩
   rw [← iq] at Yy Ru
   obtain ⟨nJ,hS2⟩:=qx.out.turn hP hK hR bM.out
   have HL2:=Lib.hid (show LP V w B0 w.heap.size Bb gb Ba ga g9 g8 (Be s1.1 s1.1.nodes) k i (Be XA XA.nodes,[]) pB (.slice A2 VY c2) L2 v9 (s1.2.map Go.strOfNums) (fun u => #[u,v9]) 0 w7 from ⟨0,.slice none 0 0,nJ,hS2,(by rw [List.drop_zero,List.drop_zero,hL2,MN,if_pos ⟨rC.out.2.1,rC.out⟩,iq]),Nat.zero_le _,nC.out.trans (hbl.mono H0.out.2.1),Nat.le_trans bM.out hK.1⟩)
   have zl:=Lib.hid iq
   have zn:=Wq.out
   clear hR hP hK hbl Yz hL2 hS2 iq qy qx
   go_wp2_with fail
   go_loopw [15] (fun u wr => ∃ m:Nat,m ≤ VY ∧ u = .int .i64 (m:Int) ∧ LP V w B0 w.heap.size Bb gb Ba ga g9 g8 (Be s1.1 s1.1.nodes) k i (Be XA XA.nodes,[]) pB (.slice A2 VY c2) L2 v9 (s1.2.map Go.strOfNums) (fun u => #[u,v9]) m wr) (fun u wr => VY - (intOf u).toNat)
   case atStart => exact ⟨0,Nat.zero_le _,rfl,HL2.out⟩
   case round =>
    obtain ⟨wo,rfl⟩:∃ wo:World,wo = wr:=⟨_,rfl⟩
    obtain ⟨m,hm,rfl,hF⟩:=hrel
    have HF:=Lib.hid hF
    have HM:=Lib.hid hm
    have XQ:=Wq.out
    clear hF HL2 hm
    by_cases hlt:m < VY
    ·have hd:decide ((m:Int) < (VY:Int)) = true:=by simp [hlt]
     have Yu:m < L2.length:=by rw [bP.out]; exact hlt
     have mQ:=Lib.hid Yu
     obtain ⟨q,v,col,hS,hfil,hq,hb0,hbb⟩:=HF.out
     obtain ⟨gx,Ab,cb,hAx,-,k0,k1,hlen,hC⟩:=LM hS.x m hlt
     subst hAx
     by_cases hto:((L2.getD m IA).1 == (i:Int)) = true
     ·obtain ⟨Ld,hxe,Nv⟩:=VA hfil Yu hto
      rw [hxe] at k0 k1 hlen hC
      have hmem:pB.getD q Ir ∈ pB:=by rw [List.getD_eq_getElem?_getD,List.getElem?_eq_getElem Ld]; exact List.getElem_mem _
      have hwk:=Yy.out _ hmem
      have htk:pB.take (q + 1) = pB.take q ++ [pB.getD q Ir]:=by rw [List.take_add_one,List.getElem?_eq_getElem Ld,List.getD_eq_getElem?_getD,List.getElem?_eq_getElem Ld]; rfl
      have hsn:=Nu k (Be XA XA.nodes,[]) (pB.take q) (pB.getD q Ir)
      rw [← htk] at hsn
      have hgl:=Qk k (Be XA XA.nodes,[]) (pB.take q)
      have hes:=DW k (Be XA XA.nodes,[]) (pB.take q)
      have hpl:=Ru.out
      have hy:=hS.y
      have VW:GX (En k (Be XA XA.nodes,[]) (pB.take q)).1:=JE k nD.out (fun p hp => (Yy.out p (List.mem_of_mem_take hp)).1.good)
      have hco:=Qj hy k (Ho nI.out) (by rw [hes.2.1]; exact nH.out) VW (Nat.le_trans hes.2.2 (by rw [List.length_take]; have h2:=nG.out; simp only at h2 ⊢; omega)) hwk.1 Ab cb hC hlen
      have mV:=Lib.hid (show (En k (Be XA XA.nodes,[]) (pB.take q)).2.length ≤ 100000 from Nat.le_trans hgl (by rw [List.length_take]; simp only [List.length_nil]; omega))
      have Nw:=Lib.hid Nv
      have HQ:=Lib.hid Ld
      have bI:=Lib.hid hsn
      have HS:=Lib.hid hS
      have HB0:=Lib.hid hb0
      have bJ:=Lib.hid hbb
      generalize pB.getD q Ir = p at *
      generalize hY:En k (Be XA XA.nodes,[]) (pB.take q) = sY at *
      generalize hbd:(BM (sY.1.pn k).e 1 p).2.body = bd at *
      have JU:=Lib.hid hbd
      generalize hnb:bd.length = nb at *
      have VB:=Lib.hid hnb
      have bK:=Lib.hid hco
      clear hto hxe hmem hwk htk hsn hgl hes hpl hy VW hco hfil Nv hq Ld hS hb0 hbb hC hlen hY hbd hnb
      have Pq:((i:Int) == (i:Int)) = true:=by simp
      by_cases hz:nb = 0
      ·have hg:decide ((nb:Int) > 0) = false:=by simp; omega
       have hz1:bd.length = 0:=by rw [VB.out]; exact hz
       have HZ1:=Lib.hid hz1
       subst hz
       go_wp2_with (go_at_call 94; (have hc:=bK.out); (with_reducible refine hc.mono ?_); clear hc; rintro e w5 ⟨A7,c7,rfl,Wp,VC,hK7,VD⟩; (have Qm:=Lib.hid (show LP V w B0 w.heap.size Bb gb Ba ga g9 g8 (Be s1.1 s1.1.nodes) k i (Be XA XA.nodes,[]) pB _ L2 v9 (s1.2.map Go.strOfNums) (fun u => #[u,v9]) (m + 1) w5 from ⟨q + 1,v,_,(by rw [bI.out]; unfold Po; rw [JU.out,HZ1.out,if_pos rfl,List.append_nil]; exact HS.out.take VC hK7),Nw.out,HQ.out,HB0.out.trans (VD.mono H0.out.1),Nat.le_trans bJ.out hK7.1⟩)); (clear Wp VC hK7 VD))
       go_roundw
       case rel => exact ⟨m + 1,by omega,by go_num,Qm.out⟩
       case measure => simp [intOf]; omega
      ·have hg:decide ((nb:Int) > 0) = true:=by simp; omega
       have hz1:¬ bd.length = 0:=by rw [VB.out]; exact hz
       have HZ1:=Lib.hid hz1
       clear hz1
       go_wp2_with (first | (go_at_call 94; (have hc:=bK.out); (with_reducible refine hc.mono ?_); clear hc; rintro e w5 ⟨A7,c7,rfl,Wp,VC,hK7,VD⟩; (have hS5:=HS.out.take VC hK7); (have Hy:=Lib.hid (HB0.out.trans (VD.mono H0.out.1))); (have VE:=Lib.hid (Nat.le_trans bJ.out hK7.1)); (obtain ⟨A3,c3,hv3⟩:=Kd.Am hS5.g); (generalize mW:(List.map Go.strOfNums sY.2).length = nv at hv3); (clear mW); (subst hv3); (have kv:w5.cell? ⟨g9,0,none⟩ = some (.slice A3 nv c3):=(AA hS5.a9 0).trans rfl); (have hcv:=Kd.Mc (P:=Try.prog) (dst:=9) (c:=c7) Try.underlying22 Try.underlying5 Try.underlying9 Wp); (have SG:=Lib.hid hS5); (clear Wp VC hK7 VD hS5)) | ((with_reducible refine AV (N:=88) rfl ?_); (refine Kd.Fq (W:=w5) (w0:=w5) KY w.heap.size rfl (.tmp 84) (.tmp 87) 74 9 (.string ⟨#[]⟩) 16 rfl Try.underlying74 info9 rfl (by decide) (by decide) (.slice A3 nv c3) (sY.2.map Go.strOfNums) (Go.strOfNums bd) [.string (Go.strOfNums bd)] (fun r => grow col 1 wo w5 3 r ∨ w5.heap.size ≤ r) (fun _ => False) rfl rfl (show Kd.M KY _ _ _ (Go.strOfNums bd) [.string (Go.strOfNums bd)] from rfl) (fun _ h => h.elim) (fun _ hr => .inr hr) (Kd.Az SG.out.g (fun _ h => .inl h)) (Below.refl _ _) VE.out (by have:=mV.out; rw [List.length_map]; omega) ?_); (intro v1 w6 Yv hb6 Q7 Yw); (have hk6:Kept w5 w6 (grow col 1 wo w5 3):=Kept.Fz Q7 (Kept.refl w5 _) (fun r hr => .inl (SG.out.g.1 r hr))); (have Ql:=Ai SG.out.a9 hk6 (fun hx => absurd (SG.out.Dn 5 3 _ SG.out.c9 hx) (by decide))); (have zZ:w6.cell? ⟨g9,0,none⟩ = some (.slice A3 nv c3):=(AA Ql 0).trans rfl); (have zf:=AB Ql 0); (obtain ⟨A6,c6,hv6⟩:=Kd.Am Yv); (generalize Yx:(List.map Go.strOfNums sY.2 ++ [Go.strOfNums bd]).length = mX at hv6); (clear Yx); (subst hv6); (have mY:=Lib.hid (SG.out.app (j:=0) hk6 Yv rfl)); (have Sl:=Lib.hid (hb6)); (have mZ:=Lib.hid hk6.1); (clear Yv hb6 Q7 Yw hk6 Ql kv)))
       go_roundw
       case rel =>
        refine ⟨m + 1,by omega,by go_num,q + 1,.slice A6 mX c6,grow (grow col 1 wo w5) 3 w5 w6,?_,Nw.out,HQ.out,(Hy.out.trans (Sl.out.mono H0.out.2.2)).setCell (p:=⟨g9,0,none⟩) qw.out _,?_⟩
        ·rw [bI.out]
         unfold Po
         rw [JU.out,if_neg HZ1.out,List.map_append]
         exact mY.out
        ·have h1:=VE.out
         have h2:=mZ.out
         simp [World.setCell]
         omega
       case measure => simp [intOf]; omega
     ·have Pq:((L2.getD m IA).1 == (i:Int)) = false:=by simpa using hto
      have mg:=Lib.hid Pq
      have HN:=Lib.hid (HF.out.next Yu Pq)
      clear hto hfil hq hS hb0 hbb hC hlen mg
      generalize L2.getD m IA = xo at *
      go_wp2_with fail
      go_roundw
      case rel => exact ⟨m + 1,by omega,by go_num,HN.out⟩
      case measure => simp [intOf]; omega
    ·have hd:decide ((m:Int) < (VY:Int)) = false:=by simp; omega
     have hme:m = VY:=by have:=HM.out; omega
     subst hme
     obtain ⟨q,v8,nK,hS,hfil,hq,hb0,hbb⟩:=HF.out
     have hqe:pB.take q = pB:=by
      rw [← bP.out,List.drop_length] at hfil
      have h2:Fg i (pB.drop q) = []:=hfil.symm
      unfold Fg at h2
      rw [List.map_eq_nil_iff] at h2
      exact List.take_of_length_le (List.drop_eq_nil_iff.1 h2)
     rw [hqe] at hS
     have HS:=Lib.hid hS
     have HB0:=Lib.hid hb0
     have nM:=Lib.hid hbb
     obtain ⟨A8,c8,rD⟩:=Kd.Am hS.g
     obtain ⟨A9,c9,aQ⟩:=Kd.Am hS.h
     generalize zo:(List.map Go.strOfNums (En k (Be XA XA.nodes,[]) pB).2).length = n8 at rD
     generalize zq:(s1.2.map Go.strOfNums).length = n9 at aQ
     clear zo zq hS hfil hq hb0 hbb hqe HF XQ
     subst rD aQ
     go_wp2_with (first | ((with_reducible refine AV (N:=90) rfl ?_); (refine wpList_load_row rfl 94 (.tmp 9) rfl g9 (by rfl) 94 #[.slice A8 n8 c8,.slice A9 n9 c9] (0,0) _ HS.out.a9 Try.underlying94 rfl (by kernel_rfl) ?_)) | ((with_reducible refine gate_ (.store 94 (.tmp 8) (.tmp 90)) rfl ?_); (refine Ae rfl rfl 94 (.tmp 8) (.tmp 90) rfl g8 #[.slice A8 n8 c8,.slice A9 n9 c9] rfl rfl 94 _ HS.out.a8 (by kernel_rfl) rfl (by kernel_rfl) ?_); (intro w9 EJ EF); (have DJ:=Lib.hid EJ); (have Y0:=Lib.hid EF); (clear EJ EF)))
     refine bodyPost_ret (v:=_) (Pk.results_cell Try.results52 _ _ rfl (run_loadVar_row (P:=Try.prog) _ g8 94 94 _ (0,0) _ DJ.out Try.underlying94 rfl (by kernel_rfl))) rfl ?_
     have nN:=nM.out
     have hkk:Kept wo w9 (fun r => r = g8):=⟨Nat.le_of_eq Y0.out.size.symm,fun r _ hs => Y0.out.block r hs⟩
     have ap:∀ c,c ≠ 5 → ∀ r,nK c r → ¬ r = g8:=fun c hc r h1 h2 => hc (HS.out.Dn c 5 r h1 (h2 ▸ HS.out.c8))
     have hSP:DF XA XB i k = (En k (Be XA XA.nodes,[]) pB,(Be s1.1 s1.1.nodes,s1.2)):=by unfold DF; rw [zl.out,iU.out,Yt.out]
     rw [hSP]
     exact ⟨_,_,rfl,⟨_,Kd.BI HS.out.g hkk (ap 3 (by decide))⟩,_,Kd.BI HS.out.h hkk (ap 4 (by decide)),_,HS.out.y.kept hkk (ap 1 (by decide)),_,HS.out.z.kept hkk (ap 0 (by decide)),(fun r h1 h2 => by have:=HS.out.Dn 1 0 r h1 h2; omega),(fun r h1 => ⟨fun h2 => by have:=HS.out.Dn 4 1 r h1 h2; omega,fun h2 => by have:=HS.out.Dn 4 0 r h1 h2; omega⟩),HB0.out.trans (Y0.out.below (Below.refl _ _) (by have:=lW.out; have:=H0.out.2.2; omega)),(fun r hv => ⟨fun h2 => by have:=HS.out.Dn 1 6 r h2 (HS.out.kv r hv).1; omega,fun h2 => by have:=HS.out.Dn 0 6 r h2 (HS.out.kv r hv).1; omega,(Y0.out.block r (ap 6 (by decide) r (HS.out.kv r hv).1)).trans (HS.out.kv r hv).2⟩),Nat.le_trans nN (Nat.le_of_eq Y0.out.size.symm)⟩
end Go.Proofs.Ytnkkgofpifhoeaa.Pe
end
section
namespace Go.Proofs.Ytnkkgofpifhoeaa.Pe
open Go.Proofs.Ytnkkgofpifhoeaa.Lk
def iter (XA XB:Ps) (i k:Nat):Nat → Ps × Ps
 | 0 => (XA,XB)
 | n + 1 => ((DF (iter XA XB i k n).1 (iter XA XB i k n).2 i k).1.1,(DF (iter XA XB i k n).1 (iter XA XB i k n).2 i k).2.1)
theorem Ny (me:Nat) (N:Nat):GX (fresh me 1 N):=fun k hk => ⟨LC (Uo (by decide)),Qd (Yf _)⟩
theorem VF (XA XB:Ps) (i k j:Nat):((DF XA XB i k).1.1.has j ↔ XA.has j) ∧ ((DF XA XB i k).2.1.has j ↔ XB.has j):=by
 unfold DF
 have h1:=DW k (Be XA XA.nodes,([]:List (List Int))) ((En i (XB,[]) (XA.pn k).e.out).1.pn i).e.out
 have h2:=BR XA XA.nodes
 have h3:=DW i (XB,([]:List (List Int))) (XA.pn k).e.out
 have h4:=BR (En i (XB,[]) (XA.pn k).e.out).1 (En i (XB,[]) (XA.pn k).e.out).1.nodes
 constructor
 ·unfold Ps.has
  rw [h1.1,h1.2.1,h2.2.1,h2.2.2.1]
 ·unfold Ps.has
  rw [h4.2.1,h4.2.2.1,h3.1,h3.2.1]
theorem KD (XA XB:Ps) (i k:Nat):(DF XA XB i k).1.1.nodes = XA.nodes ∧ (DF XA XB i k).2.1.nodes = XB.nodes:=by
 unfold DF
 have h1:=DW k (Be XA XA.nodes,([]:List (List Int))) ((En i (XB,[]) (XA.pn k).e.out).1.pn i).e.out
 have h2:=BR XA XA.nodes
 have h3:=DW i (XB,([]:List (List Int))) (XA.pn k).e.out
 have h4:=BR (En i (XB,[]) (XA.pn k).e.out).1 (En i (XB,[]) (XA.pn k).e.out).1.nodes
 exact ⟨h1.2.1.trans h2.2.2.1,h4.2.2.1.trans h3.2.1⟩
theorem Qn {XA XB:Ps} (hA:GX XA) (hB:GX XB) {i k:Nat} (hi:XB.has i) (hk:XA.has k):GX (DF XA XB i k).1.1 ∧ GX (DF XA XB i k).2.1:=by
 have g1:GX (En i (XB,[]) (XA.pn k).e.out).1:=JE i (s:=(XB,[])) hB (fun p hp => (hA.wire k hk p hp).1.good)
 have hh:(En i (XB,[]) (XA.pn k).e.out).1.has i:=Ho (s:=(XB,[])) hi
 exact ⟨JE k (s:=(Be XA XA.nodes,[])) (MO hA) (fun p hp => (g1.wire i hh p hp).1.good),MO g1⟩
theorem VG {XA XB:Ps} (hA:GX XA) (hB:GX XB) {i k:Nat} (hi:XB.has i) (hk:XA.has k):(DF XA XB i k).1.1.evs.length ≤ XA.evs.length + 2048 ∧ (DF XA XB i k).2.1.evs.length ≤ XB.evs.length + 2048:=by
 have g1:GX (En i (XB,[]) (XA.pn k).e.out).1:=JE i (s:=(XB,[])) hB (fun p hp => (hA.wire k hk p hp).1.good)
 have hh:(En i (XB,[]) (XA.pn k).e.out).1.has i:=Ho (s:=(XB,[])) hi
 have h1:=DW k (Be XA XA.nodes,([]:List (List Int))) ((En i (XB,[]) (XA.pn k).e.out).1.pn i).e.out
 have h2:=BR XA XA.nodes
 have h3:=DW i (XB,([]:List (List Int))) (XA.pn k).e.out
 have h4:=BR (En i (XB,[]) (XA.pn k).e.out).1 (En i (XB,[]) (XA.pn k).e.out).1.nodes
 have l1:=hA.len k hk
 have l2:=g1.len i hh
 constructor
 ·have:=h1.2.2
  show (En k (Be XA XA.nodes,[]) ((En i (XB,[]) (XA.pn k).e.out).1.pn i).e.out).1.evs.length ≤ _
  have e:(Be XA XA.nodes,([]:List (List Int))).1.evs.length = XA.evs.length:=congrArg List.length h2.2.2.2
  omega
 ·show (Be (En i (XB,[]) (XA.pn k).e.out).1 (En i (XB,[]) (XA.pn k).e.out).1.nodes).evs.length ≤ _
  rw [h4.2.2.2]
  have:=h3.2.2
  have e:(XB,([]:List (List Int))).1.evs.length = XB.evs.length:=rfl
  omega
theorem VH {XA XB:Ps} (hA:GX XA) (hB:GX XB) {i k:Nat} (hi:XB.has i) (hk:XA.has k) (n:Nat):GX (iter XA XB i k n).1 ∧ GX (iter XA XB i k n).2 ∧ (iter XA XB i k n).1.has k ∧ (iter XA XB i k n).2.has i ∧ (iter XA XB i k n).1.nodes = XA.nodes ∧ (iter XA XB i k n).2.nodes = XB.nodes ∧ (iter XA XB i k n).1.evs.length ≤ XA.evs.length + 2048 * n ∧ (iter XA XB i k n).2.evs.length ≤ XB.evs.length + 2048 * n:=by
 induction n with
 | zero => exact ⟨hA,hB,hk,hi,rfl,rfl,Nat.le_refl _,Nat.le_refl _⟩
 | succ n ih =>
  obtain ⟨g1,g2,h1,h2,n1,n2,e1,e2⟩:=ih
  have hs:=VF (iter XA XB i k n).1 (iter XA XB i k n).2 i k
  have hg:=Qn g1 g2 h2 h1
  have hn:=KD (iter XA XB i k n).1 (iter XA XB i k n).2 i k
  have he:=VG g1 g2 h2 h1
  exact ⟨hg.1,hg.2,(hs k).1.2 h1,(hs i).2.2 h2,hn.1.trans n1,hn.2.trans n2,Nat.le_trans he.1 (by omega),Nat.le_trans he.2 (by omega)⟩
end Go.Proofs.Ytnkkgofpifhoeaa.Pe
end
section
namespace Go.Proofs.Ytnkkgofpifhoeaa.Pe
open Go.RowKit Go.Proofs.Ytnkkgofpifhoeaa.Base Go.Proofs.Ytnkkgofpifhoeaa.Steps Go.Proofs.Ytnkkgofpifhoeaa.Lk Go.Proofs.YtnkkgofpifhoeaaW.PrintWords Go.Proofs.YtnkkgofpifhoeaaW.PrintLast
theorem info3:(Try.prog.info? 3).map (fun i => (i.zero,i.size,i.bytes)) = some (some (.int .i64 0),1,8):=by kernel_rfl
def Gq (X:Ps):Nat → List Int
 | 0 => []
 | i + 1 => Gq X i ++ (if X.has (i + 1) ∧ (X.pn (i + 1)).e.phase = 2 then [((i + 1:Nat):Int)] else [])
theorem Nz (X:Ps):∀ i,(Gq X i).length ≤ i
 | 0 => Nat.le_refl _
 | i + 1 => by
  have h:=Nz X i
  unfold Gq
  rw [List.length_append]
  split
  ·simp; omega
  ·simp; omega
theorem Y1 {w:World} {B gp:Nat} {a:Ad} {own:Nat → Nat → Prop} {X:Ps} {v0:Value} (h:BV w B gp X.nodes a own X v0) (hn:X.nodes ≤ 64):Calls Try.prog 57 #[.pointer (some ⟨gp,0,none⟩)] w fun e w' => ∃ v,e = .returned v ∧ (Kd.int .i64).R 3 w' w.heap.size (fun _ => True) v (Gq X X.nodes) ∧ Below w.heap.size w w':=by
 have hc2:w.cell? ⟨gp,2,none⟩ = some (.int .i64 X.nodes):=(AA h.blk 2).trans rfl
 have H:=Lib.hid h
 obtain ⟨N,hN⟩:∃ N,N = X.nodes:=⟨_,rfl⟩
 rw [← hN] at hn hc2
 rw [← hN]
 have kW:=Lib.hid hN
 clear h hN
 go_enter Try.func57,Try.ntmps57
 go_wp2_with fail
 go_loopg [13,3] N (fun m q v wr => ∃ i:Nat,m = N - i ∧ i ≤ N ∧ q = .int .i64 (i:Int) ∧ (Kd.int .i64).R 3 wr w.heap.size (fun _ => True) v (Gq X i) ∧ Below w.heap.size w wr)
 case atStart => exact ⟨0,rfl,Nat.zero_le _,rfl,Kd.Cc _ _ _ _ _,Below.refl _ _⟩
 case round =>
  obtain ⟨wo,rfl⟩:∃ wo:World,wo = wr:=⟨_,rfl⟩
  obtain ⟨i,hm,hin,rfl,hR,hb⟩:=hrel
  have HM:=Lib.hid hm
  have XT:=Lib.hid hin
  have HR:=Lib.hid hR
  have HB:=Lib.hid hb
  obtain ⟨A0,c0,hv⟩:=Kd.Am hR
  have HLEN:=Lib.hid (Nz X i)
  generalize hnl:(Gq X i).length = nl at hv
  clear hnl
  subst hv
  have hP:=H.out.sub hb
  have hc3:wo.cell? ⟨gp,3,none⟩ = some (.map (some a.r)):=(AA hP.blk 3).trans rfl
  have hlk:=hP.map.look ((i:Int) + 1)
  have HP:=Lib.hid hP
  clear hm hin hR hb hP hc2
  by_cases hlt:i < N
  ·have hd:decide ((i:Int) < (N:Int)) = true:=by simp [hlt]
   by_cases hx:X.has (i + 1)
   ·rw [show X.at_ a ((i:Int) + 1) = some (a.gx (i + 1)) from Ps.IV hx] at hlk
    simp only [ptr,Option.isSome] at hlk
    have hx0:wo.cell? ⟨a.gx (i + 1),0,none⟩ = some (.pointer (some ⟨a.ge (i + 1),0,none⟩)):=(AA (HP.out.pk _ hx) 0).trans rfl
    have ES:=Lib.hid (phase_end (HP.out.e (i + 1) hx))
    have HX:=Lib.hid hx
    clear hx
    by_cases hp:(X.pn (i + 1)).e.phase = 2
    ·have hq:((X.pn (i + 1)).e.phase == 2) = true:=by simp [hp]
     have HP2:=Lib.hid hp
     clear hp
     go_wp2_with (first | (go_at_call 29; (have hc:=ES.out); (with_reducible refine hc.mono ?_); clear hc; rintro e w9 ⟨rfl,rfl⟩) | ((with_reducible refine AV (N:=39) rfl ?_); (refine Kd.Fq (W:=wo) (w0:=wo) (Kd.int .i64) w.heap.size rfl (.tmp 35) (.tmp 38) 101 3 (.int .i64 0) 8 rfl Try.underlying101 info3 rfl (by decide) (by decide) (.slice A0 nl c0) (Gq X i) ((i + 1:Nat):Int) [.int .i64 ((i + 1:Nat):Int)] (fun _ => True) (fun _ => False) rfl rfl (show (Kd.int .i64).M _ _ _ _ _ from rfl) (fun _ h => h.elim) (fun _ _ => trivial) HR.out (Below.refl _ _) HB.out.size (by have:=HLEN.out; omega) ?_); (intro v1 w1 hR1 hb1 hg1 FB); (have HR1:=Lib.hid (show (Kd.int .i64).R 3 w1 w.heap.size (fun _ => True) v1 (Gq X (i + 1)) from (by have e:Gq X (i + 1) = Gq X i ++ [((i + 1:Nat):Int)]:=(by show _ ++ _ = _; rw [if_pos ⟨HX.out,HP2.out⟩]); rw [e]; exact hR1))); (have HB1:=Lib.hid (HB.out.trans hb1)); (clear hR1 hb1 hg1 FB)))
     go_roundg (N - (i + 1))
     case measure => have:=HM.out; omega
     case rel => exact ⟨i + 1,rfl,by omega,by first | rfl | simp,HR1.out,HB1.out⟩
    ·have hq:((X.pn (i + 1)).e.phase == 2) = false:=by simp [hp]
     have e:Gq X (i + 1) = Gq X i:=by show _ ++ _ = _; rw [if_neg (fun h => hp h.2),List.append_nil]
     have HE:=Lib.hid e
     clear hp e
     go_wp2_with (go_at_call 29; (have hc:=ES.out); (with_reducible refine hc.mono ?_); clear hc; rintro e w9 ⟨rfl,rfl⟩)
     exact qp
   ·rw [Ps.J4 (X:=X) (a:=a) (k:=(i:Int) + 1) (fun hh => hx ⟨by omega,by have:=kW.out; omega,by omega⟩)] at hlk
    simp only [ptr,Option.isSome] at hlk
    have e:Gq X (i + 1) = Gq X i:=by show _ ++ _ = _; rw [if_neg (fun h => hx h.1),List.append_nil]
    have HE:=Lib.hid e
    clear hx e
    go_wp2_with fail
    exact qp
  ·have hd:decide ((i:Int) < (N:Int)) = false:=by simp; omega
   have hie:i = N:=by have:=XT.out; omega
   go_wp2_with fail
   go_ret
   exact ⟨_,rfl,hie ▸ HR.out,HB.out⟩
theorem Y2 {wr:World} {B gp:Nat} {U:Nat → Prop} {X:Ps} (h:PW wr B gp U X) (hn:X.nodes ≤ 64):Calls Try.prog 57 #[.pointer (some ⟨gp,0,none⟩)] wr fun e w' => ∃ v,e = .returned v ∧ (Kd.int .i64).R 3 w' wr.heap.size (fun _ => True) v (Gq X X.nodes) ∧ Below wr.heap.size wr w':=by
 obtain ⟨a,own,v,h1,h2⟩:=h.at_
 exact Y1 h1 hn
end Go.Proofs.Ytnkkgofpifhoeaa.Pe
end
section
namespace Go.Proofs.Ytnkkgofpifhoeaa.Pe
open Go.RowKit Go.Proofs.Ytnkkgofpifhoeaa.Base Go.Proofs.Ytnkkgofpifhoeaa.Steps Go.Proofs.Ytnkkgofpifhoeaa.Lk Go.Proofs.YtnkkgofpifhoeaaW.PrintWords
structure TW (w0:World) (Ba ga Bb gb:Nat) (V:Nat → Prop) (XA XB:Ps) (wr:World):Prop where
 ex:∃ UA UB,PW wr Ba ga UA XA ∧ PW wr Bb gb UB XB ∧ (∀ k,UA k → ¬ UB k) ∧ ∀ k,V k → k < wr.heap.size ∧ ¬ UA k ∧ ¬ UB k
 below:Below w0.heap.size w0 wr
 lo:w0.heap.size ≤ Ba ∧ w0.heap.size ≤ Bb
section
variable {w0 wr w':World} {Ba ga Bb gb:Nat} {V:Nat → Prop} {XA XB Yp zu:Ps} (h:TW w0 Ba ga Bb gb V XA XB wr)
include h
theorem TW.sub (hb:Below wr.heap.size wr w'):TW w0 Ba ga Bb gb V XA XB w':=by
 obtain ⟨UA,UB,h1,h2,h3,h4⟩:=h.ex
 exact ⟨⟨UA,UB,h1.sub hb,h2.sub hb,h3,fun k hk => ⟨Nat.lt_of_lt_of_le (h4 k hk).1 hb.size,(h4 k hk).2⟩⟩,h.below.trans (hb.mono h.below.size),h.lo⟩
theorem TW.less {V':Nat → Prop} (hV:∀ k,V' k → V k):TW w0 Ba ga Bb gb V' XA XB wr:=by
 obtain ⟨UA,UB,h1,h2,h3,h4⟩:=h.ex
 exact ⟨⟨UA,UB,h1,h2,h3,fun k hk => h4 k (hV k hk)⟩,h.below,h.lo⟩
end
theorem MP {w0 wr:World} {Ba ga Bb gb:Nat} {V:Nat → Prop} {XA XB:Ps} (h:TW w0 Ba ga Bb gb V XA XB wr) (i k:Nat) (hi:XB.has i) (hk:XA.has k) (gA:GX XA) (gB:GX XB) (nA:XA.nodes ≤ 64) (nB:XB.nodes ≤ 64) (eA:XA.evs.length ≤ 900000) (eB:XB.evs.length ≤ 900000) :
  Calls Try.prog 52 #[.pointer (some ⟨ga,0,none⟩),.pointer (some ⟨gb,0,none⟩),.int .i64 i,.int .i64 k] wr fun e w' => ∃ v0 v1,e = .returned (.agg #[v0,v1]) ∧ (∃ A n c,v0 = .slice A n c) ∧ (∃ ok1,KY.R 9 w' wr.heap.size ok1 v1 ((DF XA XB i k).2.2.map Go.strOfNums)) ∧ TW w0 Ba ga Bb gb V (DF XA XB i k).1.1 (DF XA XB i k).2.1 w' ∧ Kept wr w' (fun k => ¬ V k):=by
 obtain ⟨UA,UB,h1,h2,h3,h4⟩:=h.ex
 refine (Wl h1 h2 h3 i k hi hk gA gB nA nB eA eB (B0:=w0.heap.size) ⟨h.lo.1,h.lo.2,h.below.size⟩ h4).mono fun e w' hq => ?_
 obtain ⟨v0,v1,ok0,ok1,ZO,ZP,he,hr0,hr1,g1,g2,g3,g4,g5,g6,g7⟩:=hq
 obtain ⟨A,c,hv⟩:=Kd.Am hr0
 exact ⟨v0,v1,he,⟨A,_,c,hv⟩,⟨ok1,hr1⟩,⟨⟨ZO,ZP,g1,g2,g3,fun k hk => ⟨Nat.lt_of_lt_of_le (h4 k hk).1 g7,(g6 k hk).1,(g6 k hk).2.1⟩⟩,h.below.trans g5,h.lo⟩,⟨g7,fun k _ hn => (g6 k (Classical.not_not.1 hn)).2.2⟩⟩
end Go.Proofs.Ytnkkgofpifhoeaa.Pe
end
section
namespace Go.Proofs.Ytnkkgofpifhoeaa.Pe
open Go.RowKit Go.Proofs.Ytnkkgofpifhoeaa.Base Go.Proofs.Ytnkkgofpifhoeaa.Steps Go.Proofs.Ytnkkgofpifhoeaa.Lk Go.Proofs.YtnkkgofpifhoeaaW.PrintWords Go.Proofs.YtnkkgofpifhoeaaW.PrintLast
section
variable {w0 wr w':World} {Ba ga Bb gb:Nat} {V:Nat → Prop} {XA XB Yp zu:Ps}
theorem TW.turn (h:TW w0 Ba ga Bb gb V XA XB wr):TW w0 Bb gb Ba ga V XB XA wr:=by
 obtain ⟨UA,UB,h1,h2,h3,h4⟩:=h.ex
 exact ⟨⟨UB,UA,h2,h1,fun k hb ha => h3 k ha hb,fun k hk => ⟨(h4 k hk).1,(h4 k hk).2.2,(h4 k hk).2.1⟩⟩,h.below,h.lo.2,h.lo.1⟩
theorem Hq (h:TW w0 Ba ga Bb gb V XA XB wr):Calls Try.prog 53 #[.pointer (some ⟨ga,0,none⟩)] wr fun e w' => ∃ v V',e = .returned v ∧ SY.R 99 w' Ba V' v XA.evs ∧ TW w0 Ba ga Bb gb (fun k => V k ∨ V' k) { XA with evs:=[] } XB w' ∧ Kept wr w' (fun k => ¬ V k):=by
 obtain ⟨UA,UB,h1,h2,h3,h4⟩:=h.ex
 refine (SE h1).mono fun e w' hq => ?_
 obtain ⟨v,ZZ,U',he,hR,hd,hP,hU,hK,hb⟩:=hq
 refine ⟨v,fun k => ZZ k ∧ k < w'.heap.size,he,Kd.Az (Kd.CW hR) (fun k hk => ⟨hk.1,hk.2.2.1⟩),⟨⟨U',UB,hP,h2.kept hK (fun k hb' hu => h3 k (hU k hu) hb'),fun k hu hb' => h3 k (hU k hu) hb',fun k hk => ?_⟩,h.below.trans (hb.mono h.lo.1),h.lo⟩,hK.mono (fun k hk hv => (h4 k hv).2.1 (hU k hk))⟩
 rcases hk with hk | ⟨hk,hl⟩
 ·exact ⟨Nat.lt_of_lt_of_le (h4 k hk).1 hK.1,fun hu => (h4 k hk).2.1 (hU k hu),(h4 k hk).2.2⟩
 ·exact ⟨hl,(hd k hk).2,fun hb' => h3 k (hd k hk).1 hb'⟩
theorem Ws (h:TW w0 Ba ga Bb gb V XA XB wr) (i:Nat) (hi:XA.has i) (hg:GX XA) (hl:XA.evs.length ≤ 1000000) (body:List Int) (A:Option Addr) (c:Nat) (hC:(Kd.int .u8).C wr A body.length body) :
  Calls Try.prog 51 #[.pointer (some ⟨ga,0,none⟩),.int .i64 i,.slice A body.length c] wr fun e w' => e = .returned (.int .i64 (J6 XA i body)) ∧ TW w0 Ba ga Bb gb V (JM XA i body) XB w' ∧ Kept wr w' (fun k => ¬ V k):=by
 obtain ⟨UA,UB,h1,h2,h3,h4⟩:=h.ex
 refine (Wi h1 i hi hg hl body A c hC).mono fun e w' hq => ?_
 obtain ⟨he,g1,g2,g3⟩:=hq
 exact ⟨he,⟨⟨more UA wr w',UB,g1,h2.kept g2 (fun k hb ha => h3 k ha hb),fun k ha hb => ha.elim (fun x => h3 k x hb) (fun x => by have:=h2.lt k hb; omega),fun k hk => ⟨Nat.lt_of_lt_of_le (h4 k hk).1 g2.1,fun ha => ha.elim (h4 k hk).2.1 (fun x => by have:=(h4 k hk).1; omega),(h4 k hk).2.2⟩⟩,h.below.trans (g3.mono h.lo.1),h.lo⟩,g2.mono (fun k hk hv => (h4 k hv).2.1 hk)⟩
theorem Pv (h:TW w0 Ba ga Bb gb V XA XB wr) (hn:XA.nodes ≤ 64):Calls Try.prog 57 #[.pointer (some ⟨ga,0,none⟩)] wr fun e w' => ∃ v,e = .returned v ∧ (Kd.int .i64).R 3 w' wr.heap.size (fun _ => True) v (Gq XA XA.nodes) ∧ TW w0 Ba ga Bb gb V XA XB w':=by
 obtain ⟨UA,UB,h1,h2,h3,h4⟩:=h.ex
 exact (Y2 h1 hn).mono fun e w' ⟨v,he,hR,hb⟩ => ⟨v,he,hR,h.sub hb⟩
theorem KE (h:TW w0 Ba ga Bb gb V XA XB wr) (i:Nat) (hi:XA.has i):Calls Try.prog 54 #[.pointer (some ⟨ga,0,none⟩),.int .i64 i] wr fun e w' => e = .returned (.int .i64 (XA.pn i).e.phase) ∧ wr = w':=by
 obtain ⟨UA,UB,h1,h2,h3,h4⟩:=h.ex
 exact U8 h1 i hi
theorem VI (h:TW w0 Ba ga Bb gb V XA XB wr) (i:Nat) (hi:XA.has i):Calls Try.prog 55 #[.pointer (some ⟨ga,0,none⟩),.int .i64 i] wr fun e w' => e = .returned (.int .i64 (XA.pn i).e.queue.length) ∧ wr = w':=by
 obtain ⟨UA,UB,h1,h2,h3,h4⟩:=h.ex
 exact U9 h1 i hi
end
def Y3:Int × Bool:=(0,false)
theorem Iy {w:World} {b:Nat} {ok:Nat → Prop} {A:Option Addr} {m c:Nat} {L:List (Int × Bool)} (h:SY.R 99 w b ok (.slice A m c) L) (n:Nat) (hn:n < m) :
  ∃ g,A = some ⟨g,0,none⟩ ∧ w.cell? ⟨g,n * 2,none⟩ = some (.int .i64 (L.getD n Y3).1) ∧ w.cell? ⟨g,n * 2 + 1,none⟩ = some (.bool (L.getD n Y3).2):=by
 obtain ⟨hl,hnc,hC⟩:=Kd.D9 h
 obtain ⟨gx,cap,he,_⟩:=Kd.OO h (by omega)
 injection he with h1 h2 h3
 subst h1
 obtain ⟨cs,hcl,hM,hc,_⟩:=Kd.OU h Y3 (n:Int) (by omega) (by omega)
 rw [Int.toNat_natCast] at hM hc
 obtain ⟨c1,c2,hcs,e1,e2⟩:=hM
 subst e1
 subst e2
 subst hcs
 exact ⟨gx,rfl,hc 0 _ rfl,hc 1 _ rfl⟩
theorem Qo (w w1 w2:World) {ga gb:Nat} {XA XB:Ps} (hA:PW w1 w.heap.size ga (fun k => w.heap.size ≤ k ∧ k < w1.heap.size) XA) (hb1:Below w.heap.size w w1) (hB:PW w2 w1.heap.size gb (fun k => w1.heap.size ≤ k ∧ k < w2.heap.size) XB) (hb2:Below w1.heap.size w1 w2):TW w w.heap.size ga w1.heap.size gb (fun _ => False) XA XB w2 :=
 ⟨⟨_,_,hA.sub hb2,hB,fun k h1 h2 => by omega,fun k hk => hk.elim⟩,hb1.trans (hb2.mono hb1.size),Nat.le_refl _,hb1.size⟩
end Go.Proofs.Ytnkkgofpifhoeaa.Pe
end
