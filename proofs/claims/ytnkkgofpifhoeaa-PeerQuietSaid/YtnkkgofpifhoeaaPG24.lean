/- What the laws of a pair are proved with: links and pairs in memory, what their methods do, what a pair keeps to (part 24). -/
import Derived.Test.YtnkkgofpifhoeaaPG23
import Derived.Deep.LoopGhost
import Derived.Laws.StructEq
import Derived.Deep.MidRow
import Derived.ArgAppend
import Derived.LoopN
set_option linter.unusedSimpArgs false
set_option linter.unusedVariables false
set_option maxRecDepth 100000
set_option maxHeartbeats 16000000
namespace Go.Proofs.Ytnkkgofpifhoeaa
theorem qg {p:Prop} (h:p:=by
 clear iQ
 go_wp2_with fail
 go_ret2
 obtain ⟨KA,G5⟩:=ZD.out.row
 have hmv:=ZD.out.mv
 rw [qh.out] at hmv
 rw [XW.out]
 first | exact ⟨A7,c7,rfl,⟨KA,G5⟩,hmv⟩ | exact ⟨A7,c7,KA,rfl,G5,hmv⟩):p:=h
end Go.Proofs.Ytnkkgofpifhoeaa
section
namespace Go.Proofs.Ytnkkgofpifhoeaa.Pe
open Go.RowKit Go.Proofs.Ytnkkgofpifhoeaa.Base Go.Proofs.Ytnkkgofpifhoeaa.Steps Go.Proofs.Ytnkkgofpifhoeaa.Lk Go.Proofs.YtnkkgofpifhoeaaW.PrintWords Go.Proofs.YtnkkgofpifhoeaaW.PrintLast
theorem ah {L:Lk} {b:Int} {p:BJ} (h:p.kind = 4):(BM L b p).2.up = false ∧ (BM L b p).2.down = false:=by
 unfold BM
 split
 ·exact ⟨rfl,rfl⟩
 ·rw [if_neg (by omega)]
  split
  ·exact ⟨rfl,rfl⟩
  ·exact ⟨rfl,rfl⟩
theorem Ym {p:BJ} (h:p.Good) (hk:p.kind = 4):Num.Bc p.zr p.zi = true:=by
 have hc:=h.check
 unfold Pk.Ah at hc
 rw [if_neg (by omega),if_neg (by omega),if_neg (by omega),if_pos hk] at hc
 split at hc
 ·rename_i hg
  unfold Pk.IZ at hg
  rw [Bool.and_eq_true] at hg
  exact hg.1
 ·cases hc
theorem Yn {w:World} {B gp:Nat} {n:Int} {a:Ad} {own:Nat → Nat → Prop} {X:Ps} {v:Value} (h:BV w B gp n a own X v) (k:Nat) (hx:X.has k) (hok:(X.pn k).e.Ok) (hl:X.evs.length ≤ 999990) (AL:Int) (hb:0 < AL ∧ AL < 4294967296) (p:BJ) (hp:JX p) (U7:X.nodes ≤ 64) (A:Option Addr) (c:Nat) (hC:(Kd.int .u8).C w A (Ej p).length (Ej p)) (hc:(Ej p).length ≤ c) (hby:Pk.Bv (Ej p)) :
  Calls Try.prog 94 #[.pointer (some ⟨gp,0,none⟩),.int .i64 k,.int .u32 AL,.slice A (Ej p).length c] w fun e w' => ∃ A7 c7 okb,e = .returned (.tuple #[.slice A7 (BM (X.pn k).e AL p).2.body.length c7,.int .i64 0]) ∧ (Kd.int .u8).R 5 w' B okb (.slice A7 (BM (X.pn k).e AL p).2.body.length c7) (BM (X.pn k).e AL p).2.body ∧ Mv w B gp n a own X (EG X k AL p) w':=by
 have hc3:w.cell? ⟨gp,3,none⟩ = some (.map (some a.r)):=(AA h.blk 3).trans rfl
 have hlk:=h.map.look k
 rw [Ps.IV hx] at hlk
 simp only [ptr,Option.isSome] at hlk
 have hbz:(AL == 0) = false:=by simp; omega
 have qi:=Lib.hid (fun w1 (hw1:Below w.heap.size w w1) => Pk.Oi A c (Ej p) w1 (Kd.BQ hC hw1) hc hby)
 have lT:=Lib.hid (UZ hp)
 have H:=Lib.hid h
 have HX:=Lib.hid hx
 have XP:=Lib.hid hok
 have HL:=Lib.hid hl
 have iV:=Lib.hid hb
 have ZN:=Lib.hid hp
 have qj:=Lib.hid (show 1 ≤ k ∧ k ≤ 64 from ⟨hx.1,by have:=hx.2.1; omega⟩)
 generalize hnl:(Ej p).length = nl at *
 clear h hx hok hl hb hp U7 hC hc hby hnl
 go_enter Try.func94,Try.ntmps94
 go_wp2_with (first | (go_at_call 16; (have hz:=qi.out w (Below.refl _ _)); (with_reducible refine hz.mono ?_); clear hz; rintro e w3 ⟨v3,rfl,YB,hb3⟩; (rw [lT.out.2] at YB ⊢); (rw [lT.out.1]); (obtain ⟨Ab,cb,hv3⟩:=Kd.Am YB); (generalize hnb:(YN p).body.length = nb at hv3); (have XQ:=Lib.hid hnb); (subst hv3); (have HR3:=Lib.hid YB); (have HB3:=Lib.hid hb3); (clear YB hb3 hnb); (have HZ3:=Lib.hid (heap_alloc_new w3 (.cells #[.int .i64 0,.int .u32 0,.int .u32 0,.int .u32 0,.int .u32 0,.int .u32 0,.int .u32 0,.int .u32 0,.complex .f64 0 0,.slice none 0 0] 27)))) | ((with_reducible refine gate_ (.store 27 (.tmp 12) (.tmp 34)) rfl ?_); (refine Ae rfl rfl 27 (.tmp 12) (.tmp 34) rfl w3.heap.size #[.int .i64 p.kind,.int .u32 p.mine,.int .u32 p.AL,.int .u32 p.yours,.int .u32 p.seq,.int .u32 p.AX,.int .u32 p.stamp,.int .u32 p.echo,.complex .f64 p.zr p.zi,.slice Ab nb cb] rfl rfl 27 _ HZ3.out (by kernel_rfl) rfl (by kernel_rfl) ?_); (intro w4 hb4 U3); (have HB4:=Lib.hid hb4); (have UH:=Lib.hid (U3.below ((Below.refl w3.heap.size w3).alloc (Nat.le_refl _) _) (Nat.le_refl _))); (clear hb4 U3)))
 obtain ⟨⟨L',⟨hdb,XX,XY,body⟩⟩,htf⟩:∃ x,x = BM (X.pn k).e AL p:=⟨_,rfl⟩
 have XW:=Lib.hid htf.symm
 clear htf
 have NL:=Lib.hid (HB3.out.trans (UH.out.mono HB3.out.size))
 have Wh:=Lib.hid (H.out.sub NL.out)
 have WC:=Lib.hid (fun W (hW:Below w4.heap.size w4 W) => UY ((Wh.out.sub hW).e k HX.out) (Wh.out.sub hW).hB XP.out AL p iV.out ZN.out.good (DI:=fun j => w.heap.size ≤ j) (F5.2 ⟨_,rfl,Kd.G8 (Kd.Az (Kd.CW (Kd.Eb (Kd.Eb HR3.out UH.out) hW)) (fun j hj => hj.2.1)) H.out.hB⟩) (fun j hj hy => by have:=H.out.lt _ j hy; omega))
 have hbd:=Aj (Below.refl w4.heap.size w4)
 have hSS:w4.drew.heap[a.gx k]? = some (.cells (Gy (a.ge k) (X.pn k)) 172 (0,0)) ∧ w4.drew.heap[w3.heap.size]? = some (.cells #[.int .i64 p.kind,.int .u32 p.mine,.int .u32 p.AL,.int .u32 p.yours,.int .u32 p.seq,.int .u32 p.AX,.int .u32 p.stamp,.int .u32 p.echo,.complex .f64 p.zr p.zi,.slice Ab nb cb] 27 (0,0)):=⟨(Wh.out.sub hbd).pk k HX.out,HB4.out⟩
 refine Aw (n:=13) (S:=fun w' => w'.heap[a.gx k]? = some (.cells (Gy (a.ge k) (X.pn k)) 172 (0,0)) ∧ w'.heap[w3.heap.size]? = some (.cells #[.int .i64 p.kind,.int .u32 p.mine,.int .u32 p.AL,.int .u32 p.yours,.int .u32 p.seq,.int .u32 p.AX,.int .u32 p.stamp,.int .u32 p.echo,.complex .f64 p.zr p.zi,.slice Ab nb cb] 27 (0,0))) (ds:=[11]) wH (by kernel_rfl) rfl rfl (hSS) (fun hHeld => ?_)
 generalize w4.drew = w6 at hbd hHeld ⊢
 have JU:=Lib.hid hbd
 clear hbd
 refine pu 0 40 wI ?_
 refine pu 1 41 wJ ?_
 refine pu 2 42 wK ?_
 refine tk 3 43 wL hHeld ?_ (hf:=by intro w' s0; have hc0:w'.cell? ⟨a.gx k,0,none⟩ = some (.pointer (some ⟨a.ge k,0,none⟩)):=(AA s0.1 0).trans rfl; clear s0; go_simp; rfl)
 refine pu 4 44 wM ?_
 refine tk 5 45 wO hHeld ?_ (hf:=by intro w' s0; have DZ:=Try.underlying27; have hd0:w'.cell? ⟨w3.heap.size,0,none⟩ = some (.int .i64 p.kind):=(AA s0.2 0).trans rfl; have hd1:w'.cell? ⟨w3.heap.size,1,none⟩ = some (.int .u32 p.mine):=(AA s0.2 1).trans rfl; have hd2:w'.cell? ⟨w3.heap.size,2,none⟩ = some (.int .u32 p.AL):=(AA s0.2 2).trans rfl; have hd3:w'.cell? ⟨w3.heap.size,3,none⟩ = some (.int .u32 p.yours):=(AA s0.2 3).trans rfl; have hd4:w'.cell? ⟨w3.heap.size,4,none⟩ = some (.int .u32 p.seq):=(AA s0.2 4).trans rfl; have hd5:w'.cell? ⟨w3.heap.size,5,none⟩ = some (.int .u32 p.AX):=(AA s0.2 5).trans rfl; have hd6:w'.cell? ⟨w3.heap.size,6,none⟩ = some (.int .u32 p.stamp):=(AA s0.2 6).trans rfl; have hd7:w'.cell? ⟨w3.heap.size,7,none⟩ = some (.int .u32 p.echo):=(AA s0.2 7).trans rfl; have hd8:w'.cell? ⟨w3.heap.size,8,none⟩ = some (.complex .f64 p.zr p.zi):=(AA s0.2 8).trans rfl; have hd9:w'.cell? ⟨w3.heap.size,9,none⟩ = some (.slice Ab nb cb):=(AA s0.2 9).trans rfl; clear s0; go_simp; try rfl)
 refine D7 (σ:=Nat × Option Addr × Nat) 2 jW (fun s => [(46,.tuple #[.agg #[.bool hdb,.bool XX,.bool XY,.slice s.2.1 body.length s.2.2],.int .i64 0]),(39,.tuple #[.agg #[.bool hdb,.bool XX,.bool XY,.slice s.2.1 body.length s.2.2],.int .i64 0]),(47,.agg #[.bool hdb,.bool XX,.bool XY,.slice s.2.1 body.length s.2.2]),(48,.int .i64 0),(14,.pointer (some ⟨s.1,0,none⟩))]) (fun s w' => (∃ o' okb,TV w4 B gp n a own X v k L' (.slice s.2.1 body.length s.2.2) body s.1 #[.bool false,.bool false,.bool false,.slice none 0 0] o' okb w') ∧ w'.heap[w3.heap.size]? = some (.cells #[.int .i64 p.kind,.int .u32 p.mine,.int .u32 p.AL,.int .u32 p.yours,.int .u32 p.seq,.int .u32 p.AX,.int .u32 p.stamp,.int .u32 p.echo,.complex .f64 p.zr p.zi,.slice Ab nb cb] 27 (0,0))) ?_ ?_
 rotate_left
 ·intro hcont
  refine Qx (i:=6) (j:=10) (Ni:=some 46) (Nj:=some 14) wP wQ rfl rfl rfl rfl (by kernel_rfl) (by decide) (by decide) (fun K hK => ?_) (fun K hK => ?_)
  ·skip
   refine BK Try.func34 (by kernel_rfl) rfl #[.pointer (some ⟨a.ge k,0,none⟩),.int .u32 AL,.agg #[.int .i64 p.kind,.int .u32 p.mine,.int .u32 p.AL,.int .u32 p.yours,.int .u32 p.seq,.int .u32 p.AX,.int .u32 p.stamp,.int .u32 p.echo,.complex .f64 p.zr p.zi,.slice Ab nb cb]] (by rfl) rfl rfl (by (try simp only [List.map_toArray,List.map_cons,List.map_nil]); first | done | rfl) ?_
   have hz:Calls Try.prog 34 #[.pointer (some ⟨a.ge k,0,none⟩),.int .u32 AL,.agg #[.int .i64 p.kind,.int .u32 p.mine,.int .u32 p.AL,.int .u32 p.yours,.int .u32 p.seq,.int .u32 p.AX,.int .u32 p.stamp,.int .u32 p.echo,.complex .f64 p.zr p.zi,.slice Ab nb cb]] w6 _:=WC.out w6 JU.out
   refine hz.mono ?_
   clear hz
   intro e w7 Sj
   rw [XW.out] at Sj
   have hK7:=(Ei.turns Sj).2.1
   obtain ⟨A7,c7,lU,o',okb,hT0⟩:=T0.of Wh.out HX.out JU.out Sj
   subst lU
   have HT0:=Lib.hid hT0
   refine ⟨_,rfl,?_⟩
   have hS7:w7.heap[a.gx k]? = some (.cells (Gy (a.ge k) (X.pn k)) 172 (0,0)) ∧ w7.heap[w3.heap.size]? = some (.cells #[.int .i64 p.kind,.int .u32 p.mine,.int .u32 p.AL,.int .u32 p.yours,.int .u32 p.seq,.int .u32 p.AX,.int .u32 p.stamp,.int .u32 p.echo,.complex .f64 p.zr p.zi,.slice Ab nb cb] 27 (0,0)):=⟨Ai hHeld.1 hK7 (fun hx => Wh.out.apart _ _ hx (.inr (.inr ⟨k,HX.out,rfl⟩))),Ai hHeld.2 hK7 (fun hx => by have:=H.out.lt _ _ hx; have:=HB3.out.size; omega)⟩
   clear Sj hT0 hK7 hHeld
   refine hK.out _ _ hS7 (fun hHeld => ?_)
   clear hK K hS7
   refine nm 46 ?_
   refine pu 7 39 wR ?_
   refine pu 8 47 wU ?_
   refine pu 9 48 wW ?_
   refine on 10 (some 14) jW fun K hK => ?_
   refine Dt (by rfl) (N:=14) rfl (cs:=#[.bool false,.bool false,.bool false,.slice none 0 0]) (t:=56) (by first | (go_simp; done) | (go_simp; rfl)) ?_
   intro g7 iW w8 hbx hb8
   have ai:w8.heap[a.gx k]? = some (.cells (Gy (a.ge k) (X.pn k)) 172 (0,0)) ∧ w8.heap[w3.heap.size]? = some (.cells #[.int .i64 p.kind,.int .u32 p.mine,.int .u32 p.AL,.int .u32 p.yours,.int .u32 p.seq,.int .u32 p.AX,.int .u32 p.stamp,.int .u32 p.echo,.complex .f64 p.zr p.zi,.slice Ab nb cb] 27 (0,0)):=⟨(hb8.block _ (AU hHeld.1)).trans hHeld.1,(hb8.block _ (AU hHeld.2)).trans hHeld.2⟩
   have zH:=Lib.hid (HT0.out.alloc (Um:=#[.bool false,.bool false,.bool false,.slice none 0 0]) (Nat.le_of_eq iW.symm) hbx hb8)
   clear hbx hb8 hHeld iW
   refine hK.out _ _ ai (fun hHeld => ?_)
   clear hK K ai
   refine nm 14 ?_
   have h9:=hcont (g7,A7,c7) _ ⟨⟨_,_,zH.out⟩,hHeld.2⟩
   simp only [Ak,Act.put,sA,sZ,sS] at h9
   exact h9
  ·skip
   refine Dt (by rfl) (N:=14) rfl (cs:=#[.bool false,.bool false,.bool false,.slice none 0 0]) (t:=56) (by first | (go_simp; done) | (go_simp; rfl)) ?_
   intro g7 iW w8 hbx hb8
   have ai:w8.heap[a.gx k]? = some (.cells (Gy (a.ge k) (X.pn k)) 172 (0,0)) ∧ w8.heap[w3.heap.size]? = some (.cells #[.int .i64 p.kind,.int .u32 p.mine,.int .u32 p.AL,.int .u32 p.yours,.int .u32 p.seq,.int .u32 p.AX,.int .u32 p.stamp,.int .u32 p.echo,.complex .f64 p.zr p.zi,.slice Ab nb cb] 27 (0,0)):=⟨(hb8.block _ (AU hHeld.1)).trans hHeld.1,(hb8.block _ (AU hHeld.2)).trans hHeld.2⟩
   have lV:=Lib.hid hbx
   have YY:=Lib.hid hb8
   have ql:=Lib.hid (show ¬ own (k + 1) g7 from fun hx => by have:=Wh.out.lt _ _ hx; have:=JU.out.size; omega)
   have lW:=Lib.hid (show w4.heap.size ≤ g7 from by have:=JU.out.size; omega)
   clear hbx hb8 hHeld iW
   refine hK.out _ _ ai (fun hHeld => ?_)
   clear hK K ai
   refine nm 14 ?_
   refine on 6 (some 46) wS fun K hK => ?_
   refine BK Try.func34 (by kernel_rfl) rfl #[.pointer (some ⟨a.ge k,0,none⟩),.int .u32 AL,.agg #[.int .i64 p.kind,.int .u32 p.mine,.int .u32 p.AL,.int .u32 p.yours,.int .u32 p.seq,.int .u32 p.AX,.int .u32 p.stamp,.int .u32 p.echo,.complex .f64 p.zr p.zi,.slice Ab nb cb]] (by rfl) rfl rfl (by (try simp only [List.map_toArray,List.map_cons,List.map_nil]); first | done | rfl) ?_
   have hz:Calls Try.prog 34 #[.pointer (some ⟨a.ge k,0,none⟩),.int .u32 AL,.agg #[.int .i64 p.kind,.int .u32 p.mine,.int .u32 p.AL,.int .u32 p.yours,.int .u32 p.seq,.int .u32 p.AX,.int .u32 p.stamp,.int .u32 p.echo,.complex .f64 p.zr p.zi,.slice Ab nb cb]] w8 _:=WC.out w8 (JU.out.trans (YY.out.mono JU.out.size))
   refine hz.mono ?_
   clear hz
   intro e w7 Sj
   rw [XW.out] at Sj
   have hK7:=(Ei.turns Sj).2.1
   obtain ⟨A7,c7,lU,o',okb,hT0⟩:=T0.of Wh.out HX.out (JU.out.trans (YY.out.mono JU.out.size)) Sj
   subst lU
   have HT0:=Lib.hid hT0
   refine ⟨_,rfl,?_⟩
   have hS7:w7.heap[a.gx k]? = some (.cells (Gy (a.ge k) (X.pn k)) 172 (0,0)) ∧ w7.heap[w3.heap.size]? = some (.cells #[.int .i64 p.kind,.int .u32 p.mine,.int .u32 p.AL,.int .u32 p.yours,.int .u32 p.seq,.int .u32 p.AX,.int .u32 p.stamp,.int .u32 p.echo,.complex .f64 p.zr p.zi,.slice Ab nb cb] 27 (0,0)):=⟨Ai hHeld.1 hK7 (fun hx => Wh.out.apart _ _ hx (.inr (.inr ⟨k,HX.out,rfl⟩))),Ai hHeld.2 hK7 (fun hx => by have:=H.out.lt _ _ hx; have:=HB3.out.size; omega)⟩
   have iY:=Lib.hid ((hK7.2 g7 (AU lV.out) ql.out).trans lV.out)
   clear Sj hT0 hK7 hHeld
   refine hK.out _ _ hS7 (fun hHeld => ?_)
   clear hK K hS7
   refine nm 46 ?_
   refine pu 7 39 wV ?_
   refine pu 8 47 wX ?_
   refine pu 9 48 jW ?_
   have h9:=hcont (g7,A7,c7) _ ⟨⟨_,_,HT0.out.ahead (Um:=#[.bool false,.bool false,.bool false,.slice none 0 0]) lW.out (AU lV.out) ql.out iY.out⟩,hHeld.2⟩
   simp only [Ak,Act.put,sA,sZ,sS] at h9
   exact h9
 intro s9 w9 hF
 obtain ⟨g7,A7,c7⟩:=s9
 obtain ⟨⟨o',okb,hD⟩,qm⟩:=hF
 have HD:=Lib.hid hD
 have Bd:=Lib.hid qm
 clear hD qm
 refine Dy (a':=?_) ?_ ?_
 rotate_left
 ·show Ak _ _ = _
  simp only [Ak,Act.put,sA,sZ,sS]
  rfl
 refine la 11 none wZ fun K hK => ?_
 refine Rf.row_step (by rfl) rfl 56 (.tmp 14) (.tmp 47) rfl g7 #[.bool hdb,.bool XX,.bool XY,.slice A7 body.length c7] rfl rfl 56 _ HD.out.t7 (by kernel_rfl) rfl (by kernel_rfl) (fun w10 aj XZ => ?_)
 have au:=Lib.hid aj
 have ax:=Lib.hid XZ
 clear aj XZ
 refine hK.out _ _ ?_
 clear hK K
 refine pu 12 13 xA ?_
 refine BN (by kernel_rfl) ?_
 have HZ0:=Lib.hid (TV.zs H.out NL.out HD.out ax.out au.out Bd.out ⟨HB3.out.size,AU HB4.out⟩)
 clear WC Wh lT qi HZ3 HB4 UH HR3 HD Bd au ax hc3 hlk
 have Z:=HZ0
 clear HZ0
 have ay:=Lib.hid (show EG X k AL p = Iu (Ul (Gi (EM (X.BP k L') k hdb) k XY) k XX) k (hdb && p.kind == 4) p.stamp from by unfold EG; rw [XW.out])
 clear HB3 NL
 generalize w3.heap.size = gk at *
 have t0:w10.cell? ⟨g7,0,none⟩ = some (Value.bool _):=(Z.out.cell 0).trans rfl
 have t1:w10.cell? ⟨g7,1,none⟩ = some (Value.bool _):=(Z.out.cell 1).trans rfl
 have t2:w10.cell? ⟨g7,2,none⟩ = some (Value.bool _):=(Z.out.cell 2).trans rfl
 have t3:w10.cell? ⟨g7,3,none⟩ = some (Value.slice A7 body.length c7):=(Z.out.cell 3).trans rfl
 have H6:w10.cell? ⟨gk,6,none⟩ = some (Value.int .u32 p.stamp):=(Z.out.CB 6).trans rfl
 have H7:w10.cell? ⟨gk,0,none⟩ = some (Value.int .i64 p.kind):=(Z.out.CB 0).trans rfl
 by_cases hk4:p.kind = 4
 ·have hk:=ah (L:=(X.pn k).e) (b:=AL) hk4
  rw [XW.out] at hk
  obtain ⟨rfl,rfl⟩:XX = false ∧ XY = false:=hk
  have hq4:(p.kind == 4) = true:=by simp [hk4]
  have KG:=Lib.hid (And.intro (Ym ZN.out.good hk4) (And.intro ZN.out.good.YM.zr ZN.out.good.YM.zi))
  clear hk4
  cases hdb
  ·have HQ:=Lib.hid (show EG X k AL p = X.BP k L' from by rw [ay.out]; rfl)
   go_wp2_with (first | ((with_reducible refine gate_ (.store 3 (.tmp 56) (.const (.int .i64 0))) rfl ?_); (refine Z.out.store HX.out rfl rfl 3 (.tmp 56) (.const (.int .i64 0)) rfl 1 (.int .i64 0) rfl rfl rfl (by decide) (by kernel_rfl) rfl { Ps.pn _ k with quiet:=0 } rfl rfl ?_); (intro EX hz); (have Z2:=Lib.hid hz); (clear hz Z t0 t1 t2 t3 H6 H7); (have Z:=Z2); (clear Z2); (have t0:EX.cell? ⟨g7,0,none⟩ = some (Value.bool _):=(Z.out.cell 0).trans rfl); (have t1:EX.cell? ⟨g7,1,none⟩ = some (Value.bool _):=(Z.out.cell 1).trans rfl); (have t2:EX.cell? ⟨g7,2,none⟩ = some (Value.bool _):=(Z.out.cell 2).trans rfl); (have t3:EX.cell? ⟨g7,3,none⟩ = some (Value.slice A7 body.length c7):=(Z.out.cell 3).trans rfl); (have H6:EX.cell? ⟨gk,6,none⟩ = some (Value.int .u32 p.stamp):=(Z.out.CB 6).trans rfl); (have H7:EX.cell? ⟨gk,0,none⟩ = some (Value.int .i64 p.kind):=(Z.out.CB 0).trans rfl)) | (go_at_call 120; (have hc:=Z.out.tell k false (by have:=HL.out; simp [EO,Ps.set,Ps.BP]; omega)); (with_reducible refine hc.mono ?_); clear hc; rintro e w12 ⟨rfl,hz⟩; (have Z2:=Lib.hid hz); (clear hz Z t0 t1 t2 t3 H6 H7); (have Z:=Z2); (clear Z2); (have t0:w12.cell? ⟨g7,0,none⟩ = some (Value.bool _):=(Z.out.cell 0).trans rfl); (have t1:w12.cell? ⟨g7,1,none⟩ = some (Value.bool _):=(Z.out.cell 1).trans rfl); (have t2:w12.cell? ⟨g7,2,none⟩ = some (Value.bool _):=(Z.out.cell 2).trans rfl); (have t3:w12.cell? ⟨g7,3,none⟩ = some (Value.slice A7 body.length c7):=(Z.out.cell 3).trans rfl); (have H6:w12.cell? ⟨gk,6,none⟩ = some (Value.int .u32 p.stamp):=(Z.out.CB 6).trans rfl); (have H7:w12.cell? ⟨gk,0,none⟩ = some (Value.int .i64 p.kind):=(Z.out.CB 0).trans rfl)) | (go_at_call 120; (have hc:=Z.out.tell k true (by have:=HL.out; simp [EO,Ps.set,Ps.BP]; omega)); (with_reducible refine hc.mono ?_); clear hc; rintro e FI ⟨rfl,hz⟩; (have Z2:=Lib.hid hz); (clear hz Z t0 t1 t2 t3 H6 H7); (have Z:=Z2); (clear Z2); (have t0:FI.cell? ⟨g7,0,none⟩ = some (Value.bool _):=(Z.out.cell 0).trans rfl); (have t1:FI.cell? ⟨g7,1,none⟩ = some (Value.bool _):=(Z.out.cell 1).trans rfl); (have t2:FI.cell? ⟨g7,2,none⟩ = some (Value.bool _):=(Z.out.cell 2).trans rfl); (have t3:FI.cell? ⟨g7,3,none⟩ = some (Value.slice A7 body.length c7):=(Z.out.cell 3).trans rfl); (have H6:FI.cell? ⟨gk,6,none⟩ = some (Value.int .u32 p.stamp):=(Z.out.CB 6).trans rfl); (have H7:FI.cell? ⟨gk,0,none⟩ = some (Value.int .i64 p.kind):=(Z.out.CB 0).trans rfl)) | ((with_reducible refine gate_ (.store 3 (.tmp 70) (.const (.int .i64 0))) rfl ?_); (refine Z.out.store HX.out rfl rfl 3 (.tmp 70) (.const (.int .i64 0)) rfl 1 (.int .i64 0) rfl rfl rfl (by decide) (by kernel_rfl) rfl { Ps.pn _ k with quiet:=0 } rfl rfl ?_); (intro I4 hz); (have Z2:=Lib.hid hz); (clear hz Z t0 t1 t2 t3 H6 H7); (have Z:=Z2); (clear Z2); (have t0:I4.cell? ⟨g7,0,none⟩ = some (Value.bool _):=(Z.out.cell 0).trans rfl); (have t1:I4.cell? ⟨g7,1,none⟩ = some (Value.bool _):=(Z.out.cell 1).trans rfl); (have t2:I4.cell? ⟨g7,2,none⟩ = some (Value.bool _):=(Z.out.cell 2).trans rfl); (have t3:I4.cell? ⟨g7,3,none⟩ = some (Value.slice A7 body.length c7):=(Z.out.cell 3).trans rfl); (have H6:I4.cell? ⟨gk,6,none⟩ = some (Value.int .u32 p.stamp):=(Z.out.CB 6).trans rfl); (have H7:I4.cell? ⟨gk,0,none⟩ = some (Value.int .i64 p.kind):=(Z.out.CB 0).trans rfl)) | ((with_reducible refine gate_ (.store 24 (.tmp 72) (.const (.int .u32 0))) rfl ?_); (refine Z.out.store HX.out rfl rfl 24 (.tmp 72) (.const (.int .u32 0)) rfl 2 (.int .u32 0) rfl rfl rfl (by decide) (by kernel_rfl) rfl { Ps.pn _ k with echo:=0 } rfl rfl ?_); (intro IY hz); (have Z2:=Lib.hid hz); (clear hz Z t0 t1 t2 t3 H6 H7); (have Z:=Z2); (clear Z2); (have t0:IY.cell? ⟨g7,0,none⟩ = some (Value.bool _):=(Z.out.cell 0).trans rfl); (have t1:IY.cell? ⟨g7,1,none⟩ = some (Value.bool _):=(Z.out.cell 1).trans rfl); (have t2:IY.cell? ⟨g7,2,none⟩ = some (Value.bool _):=(Z.out.cell 2).trans rfl); (have t3:IY.cell? ⟨g7,3,none⟩ = some (Value.slice A7 body.length c7):=(Z.out.cell 3).trans rfl); (have H6:IY.cell? ⟨gk,6,none⟩ = some (Value.int .u32 p.stamp):=(Z.out.CB 6).trans rfl); (have H7:IY.cell? ⟨gk,0,none⟩ = some (Value.int .i64 p.kind):=(Z.out.CB 0).trans rfl)))
   go_ret2
   obtain ⟨KA,G5⟩:=Z.out.row
   rw [XW.out,HQ.out]
   first | exact ⟨A7,c7,rfl,⟨KA,G5⟩,Z.out.mv⟩ | exact ⟨A7,c7,KA,rfl,G5,Z.out.mv⟩
  ·have HQ:=Lib.hid (show EG X k AL p = (EM (X.BP k L') k true).set k { (EM (X.BP k L') k true).pn k with echo:=p.stamp } from by rw [ay.out,hq4]; rfl)
   go_wp2_with (first | ((with_reducible refine gate_ (.store 3 (.tmp 56) (.const (.int .i64 0))) rfl ?_); (refine Z.out.store HX.out rfl rfl 3 (.tmp 56) (.const (.int .i64 0)) rfl 1 (.int .i64 0) rfl rfl rfl (by decide) (by kernel_rfl) rfl { Ps.pn _ k with quiet:=0 } rfl rfl ?_); (intro EX hz); (have Z2:=Lib.hid hz); (clear hz Z t0 t1 t2 t3 H6 H7); (have Z:=Z2); (clear Z2); (have t0:EX.cell? ⟨g7,0,none⟩ = some (Value.bool _):=(Z.out.cell 0).trans rfl); (have t1:EX.cell? ⟨g7,1,none⟩ = some (Value.bool _):=(Z.out.cell 1).trans rfl); (have t2:EX.cell? ⟨g7,2,none⟩ = some (Value.bool _):=(Z.out.cell 2).trans rfl); (have t3:EX.cell? ⟨g7,3,none⟩ = some (Value.slice A7 body.length c7):=(Z.out.cell 3).trans rfl); (have H6:EX.cell? ⟨gk,6,none⟩ = some (Value.int .u32 p.stamp):=(Z.out.CB 6).trans rfl); (have H7:EX.cell? ⟨gk,0,none⟩ = some (Value.int .i64 p.kind):=(Z.out.CB 0).trans rfl)) | (go_at_call 120; (have hc:=Z.out.tell k false (by have:=HL.out; simp [EO,Ps.set,Ps.BP]; omega)); (with_reducible refine hc.mono ?_); clear hc; rintro e w12 ⟨rfl,hz⟩; (have Z2:=Lib.hid hz); (clear hz Z t0 t1 t2 t3 H6 H7); (have Z:=Z2); (clear Z2); (have t0:w12.cell? ⟨g7,0,none⟩ = some (Value.bool _):=(Z.out.cell 0).trans rfl); (have t1:w12.cell? ⟨g7,1,none⟩ = some (Value.bool _):=(Z.out.cell 1).trans rfl); (have t2:w12.cell? ⟨g7,2,none⟩ = some (Value.bool _):=(Z.out.cell 2).trans rfl); (have t3:w12.cell? ⟨g7,3,none⟩ = some (Value.slice A7 body.length c7):=(Z.out.cell 3).trans rfl); (have H6:w12.cell? ⟨gk,6,none⟩ = some (Value.int .u32 p.stamp):=(Z.out.CB 6).trans rfl); (have H7:w12.cell? ⟨gk,0,none⟩ = some (Value.int .i64 p.kind):=(Z.out.CB 0).trans rfl)) | (go_at_call 120; (have hc:=Z.out.tell k true (by have:=HL.out; simp [EO,Ps.set,Ps.BP]; omega)); (with_reducible refine hc.mono ?_); clear hc; rintro e FI ⟨rfl,hz⟩; (have Z2:=Lib.hid hz); (clear hz Z t0 t1 t2 t3 H6 H7); (have Z:=Z2); (clear Z2); (have t0:FI.cell? ⟨g7,0,none⟩ = some (Value.bool _):=(Z.out.cell 0).trans rfl); (have t1:FI.cell? ⟨g7,1,none⟩ = some (Value.bool _):=(Z.out.cell 1).trans rfl); (have t2:FI.cell? ⟨g7,2,none⟩ = some (Value.bool _):=(Z.out.cell 2).trans rfl); (have t3:FI.cell? ⟨g7,3,none⟩ = some (Value.slice A7 body.length c7):=(Z.out.cell 3).trans rfl); (have H6:FI.cell? ⟨gk,6,none⟩ = some (Value.int .u32 p.stamp):=(Z.out.CB 6).trans rfl); (have H7:FI.cell? ⟨gk,0,none⟩ = some (Value.int .i64 p.kind):=(Z.out.CB 0).trans rfl)) | ((with_reducible refine gate_ (.store 3 (.tmp 70) (.const (.int .i64 0))) rfl ?_); (refine Z.out.store HX.out rfl rfl 3 (.tmp 70) (.const (.int .i64 0)) rfl 1 (.int .i64 0) rfl rfl rfl (by decide) (by kernel_rfl) rfl { Ps.pn _ k with quiet:=0 } rfl rfl ?_); (intro I4 hz); (have Z2:=Lib.hid hz); (clear hz Z t0 t1 t2 t3 H6 H7); (have Z:=Z2); (clear Z2); (have t0:I4.cell? ⟨g7,0,none⟩ = some (Value.bool _):=(Z.out.cell 0).trans rfl); (have t1:I4.cell? ⟨g7,1,none⟩ = some (Value.bool _):=(Z.out.cell 1).trans rfl); (have t2:I4.cell? ⟨g7,2,none⟩ = some (Value.bool _):=(Z.out.cell 2).trans rfl); (have t3:I4.cell? ⟨g7,3,none⟩ = some (Value.slice A7 body.length c7):=(Z.out.cell 3).trans rfl); (have H6:I4.cell? ⟨gk,6,none⟩ = some (Value.int .u32 p.stamp):=(Z.out.CB 6).trans rfl); (have H7:I4.cell? ⟨gk,0,none⟩ = some (Value.int .i64 p.kind):=(Z.out.CB 0).trans rfl)) | ((with_reducible refine gate_ (.store 24 (.tmp 72) (.const (.int .u32 0))) rfl ?_); (refine Z.out.store HX.out rfl rfl 24 (.tmp 72) (.const (.int .u32 0)) rfl 2 (.int .u32 0) rfl rfl rfl (by decide) (by kernel_rfl) rfl { Ps.pn _ k with echo:=0 } rfl rfl ?_); (intro IY hz); (have Z2:=Lib.hid hz); (clear hz Z t0 t1 t2 t3 H6 H7); (have Z:=Z2); (clear Z2); (have t0:IY.cell? ⟨g7,0,none⟩ = some (Value.bool _):=(Z.out.cell 0).trans rfl); (have t1:IY.cell? ⟨g7,1,none⟩ = some (Value.bool _):=(Z.out.cell 1).trans rfl); (have t2:IY.cell? ⟨g7,2,none⟩ = some (Value.bool _):=(Z.out.cell 2).trans rfl); (have t3:IY.cell? ⟨g7,3,none⟩ = some (Value.slice A7 body.length c7):=(Z.out.cell 3).trans rfl); (have H6:IY.cell? ⟨gk,6,none⟩ = some (Value.int .u32 p.stamp):=(Z.out.CB 6).trans rfl); (have H7:IY.cell? ⟨gk,0,none⟩ = some (Value.int .i64 p.kind):=(Z.out.CB 0).trans rfl)) | ((with_reducible refine gate_ (.store 24 (.tmp 84) (.tmp 82)) rfl ?_); (refine Z.out.store HX.out rfl rfl 24 (.tmp 84) (.tmp 82) rfl 2 (.int .u32 p.stamp) rfl rfl rfl (by decide) (by kernel_rfl) rfl { Ps.pn _ k with echo:=p.stamp } rfl rfl ?_); (intro w16 hz); (have Z2:=Lib.hid hz); (clear hz Z t0 t1 t2 t3 H6 H7); (have Z:=Z2); (clear Z2); (have t0:w16.cell? ⟨g7,0,none⟩ = some (Value.bool _):=(Z.out.cell 0).trans rfl); (have t1:w16.cell? ⟨g7,1,none⟩ = some (Value.bool _):=(Z.out.cell 1).trans rfl); (have t2:w16.cell? ⟨g7,2,none⟩ = some (Value.bool _):=(Z.out.cell 2).trans rfl); (have t3:w16.cell? ⟨g7,3,none⟩ = some (Value.slice A7 body.length c7):=(Z.out.cell 3).trans rfl); (have H6:w16.cell? ⟨gk,6,none⟩ = some (Value.int .u32 p.stamp):=(Z.out.CB 6).trans rfl); (have H7:w16.cell? ⟨gk,0,none⟩ = some (Value.int .i64 p.kind):=(Z.out.CB 0).trans rfl)))
   have az:=Lib.hid (show ZS w B gp n a own X g7 gk _ _ _ _ (EG X k AL p) w16 from (by rw [HQ.out]; exact Z.out))
   obtain ⟨YT,lX⟩:∃ YT,YT = EG X k AL p:=⟨_,rfl⟩
   rw [← lX] at az
   have qh:=Lib.hid lX
   clear lX HQ ay Z t0 t1 t2 t3 H6 H7 hSS hHeld
   have qZ:=Lib.hid ZN.out.echo
   have iQ:=qZ.out
   obtain ⟨vg,hg⟩:=az.out.qN
   have hSS:w16.drew.heap[gk]? = some (.cells #[.int .i64 p.kind,.int .u32 p.mine,.int .u32 p.AL,.int .u32 p.yours,.int .u32 p.seq,.int .u32 p.AX,.int .u32 p.stamp,.int .u32 p.echo,.complex .f64 p.zr p.zi,.slice Ab nb cb] 27 (0,0)) ∧ w16.drew.heap[gp]? = some (.cells (mrow YT n a vg) 169 (0,0)):=⟨az.out.qO,hg⟩
   have Yo:=az.out.drew
   clear hg
   clear az
   refine Aw (n:=8) (S:=fun w' => w'.heap[gk]? = some (.cells #[.int .i64 p.kind,.int .u32 p.mine,.int .u32 p.AL,.int .u32 p.yours,.int .u32 p.seq,.int .u32 p.AX,.int .u32 p.stamp,.int .u32 p.echo,.complex .f64 p.zr p.zi,.slice Ab nb cb] 27 (0,0)) ∧ w'.heap[gp]? = some (.cells (mrow YT n a vg) 169 (0,0))) (ds:=[]) xg (by kernel_rfl) rfl rfl (hSS) (fun hHeld => ?_)
   generalize w16.drew = X6 at Yo hHeld ⊢
   have ZD:=Lib.hid Yo
   clear Yo
   refine pu 0 85 xh ?_
   refine pu 1 86 xk ?_
   refine pu 2 87 xm ?_
   refine pu 4 89 xq ?_
   refine tk 5 90 xu hHeld ?_ (hf:=by intro w' s0; have kD:w'.cell? ⟨gk,7,none⟩ = some (.int .u32 p.echo):=(AA s0.1 7).trans rfl; clear s0; go_simp; rfl)
   refine on 3 (some 88) xw fun K hK => ?_
   refine BK Try.func97 (by kernel_rfl) rfl #[.pointer (some ⟨gp,0,none⟩)] (by rfl) rfl rfl (by (try simp only [List.map_toArray,List.map_cons,List.map_nil]); first | done | rfl) ?_
   refine (show Calls Try.prog 97 #[.pointer (some ⟨gp,0,none⟩)] X6 _ from U6 ((AA hHeld.2 0).trans rfl)).mono ?_
   rintro e w18 ⟨rfl,rfl⟩
   refine ⟨_,rfl,?_⟩
   refine hK.out _ _ hHeld (fun hHeld => ?_)
   clear hK K
   refine nm 88 ?_
   refine pu 6 91 xx ?_
   refine pu 7 15 xy ?_
   refine BN (by kernel_rfl) ?_
   have t3:X6.cell? ⟨g7,3,none⟩ = some (Value.slice A7 body.length c7):=(ZD.out.cell 3).trans rfl
   have zI:X6.cell? ⟨gk,7,none⟩ = some (Value.int .u32 p.echo):=(ZD.out.CB 7).trans rfl
   clear hHeld
   have htr:=Lk.wrap32 (YT.ticks - p.echo)
   generalize IntKind.u32.wrap (YT.ticks - p.echo) = tr at *
   have lY:=htr.1
   have zJ:=htr.2
   clear htr
   by_cases h0:p.echo = 0
   ·have hg0:(p.echo != 0) = false:=by simp [h0]
    exact qg
   have hg0:(p.echo != 0) = true:=by simp [h0]
   by_cases h1:tr ≤ 1048576
   rotate_left
   ·have hg1:decide (tr ≤ 1048576) = false:=by simp; omega
    exact qg
   have hg1:decide (tr ≤ 1048576) = true:=by simp [h1]
   have zK:=Lib.hid (show 0 ≤ IntKind.i64.wrap tr ∧ IntKind.i64.wrap tr ≤ 1048576 from by rw [show IntKind.i64.wrap tr = tr from by simp [IntKind.wrap,IntKind.bits,IntKind.signed]; omega]; exact ⟨lY,h1⟩)
   clear iQ
   go_wp2_with fail
   have YG:=ZD
   clear ZD t3 zI
   obtain ⟨vg,hg⟩:=YG.out.qN
   have hSS:X6.drew.heap[gk]? = some (.cells #[.int .i64 p.kind,.int .u32 p.mine,.int .u32 p.AL,.int .u32 p.yours,.int .u32 p.seq,.int .u32 p.AX,.int .u32 p.stamp,.int .u32 p.echo,.complex .f64 p.zr p.zi,.slice Ab nb cb] 27 (0,0)) ∧ X6.drew.heap[gp]? = some (.cells (mrow YT n a vg) 169 (0,0)):=⟨YG.out.qO,hg⟩
   have Yo:=YG.out.drew
   clear hg
   clear YG
   refine Aw (n:=10) (S:=fun w' => w'.heap[gk]? = some (.cells #[.int .i64 p.kind,.int .u32 p.mine,.int .u32 p.AL,.int .u32 p.yours,.int .u32 p.seq,.int .u32 p.AX,.int .u32 p.stamp,.int .u32 p.echo,.complex .f64 p.zr p.zi,.slice Ab nb cb] 27 (0,0)) ∧ w'.heap[gp]? = some (.cells (mrow YT n a vg) 169 (0,0))) (ds:=[9]) ni (by kernel_rfl) rfl rfl (hSS) (fun hHeld => ?_)
   generalize X6.drew = w20 at Yo hHeld ⊢
   have ZD:=Lib.hid Yo
   clear Yo
   refine pu 0 99 ny ?_
   refine pu 1 100 oC ?_
   refine pu 2 101 oD ?_
   refine tk 3 102 oG hHeld ?_ (hf:=by intro w' s0; have hk4:w'.cell? ⟨gp,4,none⟩ = some (.pointer (some ⟨a.gc,0,none⟩)):=(AA s0.2 4).trans rfl; clear s0; go_simp; rfl)
   refine pu 4 103 xW ?_
   refine pu 5 104 xY ?_
   refine tk 6 105 xe hHeld ?_ (hf:=by intro w' s0; have hk8:w'.cell? ⟨gk,8,none⟩ = some (.complex .f64 p.zr p.zi):=(AA s0.1 8).trans rfl; clear s0; go_simp; rfl)
   refine pu 7 106 M3a ?_
   refine pu 8 107 oH ?_
   refine la 9 (some 108) oI fun K hK => ?_
   refine BK Try.func23 (by kernel_rfl) rfl #[.pointer (some ⟨a.gc,0,none⟩),.int .i64 k,.complex .f64 p.zr p.zi,.int .i64 (IntKind.i64.wrap tr)] (by rfl) rfl rfl (by (try simp only [List.map_toArray,List.map_cons,List.map_nil]); first | done | rfl) ?_
   refine (show Calls Try.prog 23 #[.pointer (some ⟨a.gc,0,none⟩),.int .i64 k,.complex .f64 p.zr p.zi,.int .i64 (IntKind.i64.wrap tr)] _ _ from ZD.out.hear qj.out KG.out.2.1 KG.out.2.2 KG.out.1 zK.out).mono ?_
   rintro e zL ⟨rfl,hz⟩
   have ZE:=Lib.hid hz
   clear hz
   refine ⟨_,rfl,?_⟩
   refine hK.out _ _ ?_
   clear hK K
   refine BN (by kernel_rfl) ?_
   have t3:zL.cell? ⟨g7,3,none⟩ = some (Value.slice A7 body.length c7):=(ZE.out.cell 3).trans rfl
   clear hHeld
   go_wp2_with fail
   go_ret2
   obtain ⟨KA,G5⟩:=ZE.out.row
   have hmv:=ZE.out.mv
   rw [qh.out] at hmv
   rw [XW.out]
   first | exact ⟨A7,c7,rfl,⟨KA,G5⟩,hmv⟩ | exact ⟨A7,c7,KA,rfl,G5,hmv⟩
 have hq4:(p.kind == 4) = false:=by simp [hk4]
 have HQ:=Lib.hid (show EG X k AL p = Ul (Gi (EM (X.BP k L') k hdb) k XY) k XX from by rw [ay.out,hq4,Bool.and_false]; rfl)
 clear ay ZN qj
 cases hdb <;> cases XY <;> cases XX
 all_goals (
  go_wp2_with (first | ((with_reducible refine gate_ (.store 3 (.tmp 56) (.const (.int .i64 0))) rfl ?_); (refine Z.out.store HX.out rfl rfl 3 (.tmp 56) (.const (.int .i64 0)) rfl 1 (.int .i64 0) rfl rfl rfl (by decide) (by kernel_rfl) rfl { Ps.pn _ k with quiet:=0 } rfl rfl ?_); (intro EX hz); (have Z2:=Lib.hid hz); (clear hz Z t0 t1 t2 t3 H6 H7); (have Z:=Z2); (clear Z2); (have t0:EX.cell? ⟨g7,0,none⟩ = some (Value.bool _):=(Z.out.cell 0).trans rfl); (have t1:EX.cell? ⟨g7,1,none⟩ = some (Value.bool _):=(Z.out.cell 1).trans rfl); (have t2:EX.cell? ⟨g7,2,none⟩ = some (Value.bool _):=(Z.out.cell 2).trans rfl); (have t3:EX.cell? ⟨g7,3,none⟩ = some (Value.slice A7 body.length c7):=(Z.out.cell 3).trans rfl); (have H6:EX.cell? ⟨gk,6,none⟩ = some (Value.int .u32 p.stamp):=(Z.out.CB 6).trans rfl); (have H7:EX.cell? ⟨gk,0,none⟩ = some (Value.int .i64 p.kind):=(Z.out.CB 0).trans rfl)) | (go_at_call 120; (have hc:=Z.out.tell k false (by have:=HL.out; simp [EO,Ps.set,Ps.BP]; omega)); (with_reducible refine hc.mono ?_); clear hc; rintro e w12 ⟨rfl,hz⟩; (have Z2:=Lib.hid hz); (clear hz Z t0 t1 t2 t3 H6 H7); (have Z:=Z2); (clear Z2); (have t0:w12.cell? ⟨g7,0,none⟩ = some (Value.bool _):=(Z.out.cell 0).trans rfl); (have t1:w12.cell? ⟨g7,1,none⟩ = some (Value.bool _):=(Z.out.cell 1).trans rfl); (have t2:w12.cell? ⟨g7,2,none⟩ = some (Value.bool _):=(Z.out.cell 2).trans rfl); (have t3:w12.cell? ⟨g7,3,none⟩ = some (Value.slice A7 body.length c7):=(Z.out.cell 3).trans rfl); (have H6:w12.cell? ⟨gk,6,none⟩ = some (Value.int .u32 p.stamp):=(Z.out.CB 6).trans rfl); (have H7:w12.cell? ⟨gk,0,none⟩ = some (Value.int .i64 p.kind):=(Z.out.CB 0).trans rfl)) | (go_at_call 120; (have hc:=Z.out.tell k true (by have:=HL.out; simp [EO,Ps.set,Ps.BP]; omega)); (with_reducible refine hc.mono ?_); clear hc; rintro e FI ⟨rfl,hz⟩; (have Z2:=Lib.hid hz); (clear hz Z t0 t1 t2 t3 H6 H7); (have Z:=Z2); (clear Z2); (have t0:FI.cell? ⟨g7,0,none⟩ = some (Value.bool _):=(Z.out.cell 0).trans rfl); (have t1:FI.cell? ⟨g7,1,none⟩ = some (Value.bool _):=(Z.out.cell 1).trans rfl); (have t2:FI.cell? ⟨g7,2,none⟩ = some (Value.bool _):=(Z.out.cell 2).trans rfl); (have t3:FI.cell? ⟨g7,3,none⟩ = some (Value.slice A7 body.length c7):=(Z.out.cell 3).trans rfl); (have H6:FI.cell? ⟨gk,6,none⟩ = some (Value.int .u32 p.stamp):=(Z.out.CB 6).trans rfl); (have H7:FI.cell? ⟨gk,0,none⟩ = some (Value.int .i64 p.kind):=(Z.out.CB 0).trans rfl)) | ((with_reducible refine gate_ (.store 3 (.tmp 70) (.const (.int .i64 0))) rfl ?_); (refine Z.out.store HX.out rfl rfl 3 (.tmp 70) (.const (.int .i64 0)) rfl 1 (.int .i64 0) rfl rfl rfl (by decide) (by kernel_rfl) rfl { Ps.pn _ k with quiet:=0 } rfl rfl ?_); (intro I4 hz); (have Z2:=Lib.hid hz); (clear hz Z t0 t1 t2 t3 H6 H7); (have Z:=Z2); (clear Z2); (have t0:I4.cell? ⟨g7,0,none⟩ = some (Value.bool _):=(Z.out.cell 0).trans rfl); (have t1:I4.cell? ⟨g7,1,none⟩ = some (Value.bool _):=(Z.out.cell 1).trans rfl); (have t2:I4.cell? ⟨g7,2,none⟩ = some (Value.bool _):=(Z.out.cell 2).trans rfl); (have t3:I4.cell? ⟨g7,3,none⟩ = some (Value.slice A7 body.length c7):=(Z.out.cell 3).trans rfl); (have H6:I4.cell? ⟨gk,6,none⟩ = some (Value.int .u32 p.stamp):=(Z.out.CB 6).trans rfl); (have H7:I4.cell? ⟨gk,0,none⟩ = some (Value.int .i64 p.kind):=(Z.out.CB 0).trans rfl)) | ((with_reducible refine gate_ (.store 24 (.tmp 72) (.const (.int .u32 0))) rfl ?_); (refine Z.out.store HX.out rfl rfl 24 (.tmp 72) (.const (.int .u32 0)) rfl 2 (.int .u32 0) rfl rfl rfl (by decide) (by kernel_rfl) rfl { Ps.pn _ k with echo:=0 } rfl rfl ?_); (intro IY hz); (have Z2:=Lib.hid hz); (clear hz Z t0 t1 t2 t3 H6 H7); (have Z:=Z2); (clear Z2); (have t0:IY.cell? ⟨g7,0,none⟩ = some (Value.bool _):=(Z.out.cell 0).trans rfl); (have t1:IY.cell? ⟨g7,1,none⟩ = some (Value.bool _):=(Z.out.cell 1).trans rfl); (have t2:IY.cell? ⟨g7,2,none⟩ = some (Value.bool _):=(Z.out.cell 2).trans rfl); (have t3:IY.cell? ⟨g7,3,none⟩ = some (Value.slice A7 body.length c7):=(Z.out.cell 3).trans rfl); (have H6:IY.cell? ⟨gk,6,none⟩ = some (Value.int .u32 p.stamp):=(Z.out.CB 6).trans rfl); (have H7:IY.cell? ⟨gk,0,none⟩ = some (Value.int .i64 p.kind):=(Z.out.CB 0).trans rfl)))
  go_ret2
  obtain ⟨KA,G5⟩:=Z.out.row
  rw [XW.out,HQ.out]
  first | exact ⟨A7,c7,rfl,⟨KA,G5⟩,Z.out.mv⟩ | exact ⟨A7,c7,KA,rfl,G5,Z.out.mv⟩)
end Go.Proofs.Ytnkkgofpifhoeaa.Pe
end
section
namespace Go.Proofs.Ytnkkgofpifhoeaa.Pe
open Go.RowKit Go.Proofs.Ytnkkgofpifhoeaa.Base Go.Proofs.Ytnkkgofpifhoeaa.Steps Go.Proofs.Ytnkkgofpifhoeaa.Lk Go.Proofs.Ytnkkgofpifhoeaa.Ch Go.Proofs.Ytnkkgofpifhoeaa.Num Go.Proofs.Ytnkkgofpifhoeaa.OG Go.Proofs.YtnkkgofpifhoeaaW.PrintWords Go.Proofs.YtnkkgofpifhoeaaW.PrintLast
def NW (w:World) (B gp:Nat) (N me:Nat) (AL:Int) (i:Nat) (wr:World):Prop:=∃ a own,BV wr B gp N a own (fresh me AL i) (.slice none 0 0) ∧ (∀ k,Al (fresh me AL i) a gp own k → w.heap.size ≤ k) ∧ Below B w wr ∧ w.heap.size ≤ wr.heap.size
theorem NW.start {w w3:World} {B gc rc clk:Nat} {N me:Nat} {AL:Int} {p q:Nat} {es:Array MapEntry} (hB:B ≤ w.heap.size) (h3:E8 w3 gc rc p q #[] 0) (hp:p < 18446744073709551616) (hq:q < 18446744073709551616) (hpl:Bc p q = true) (hgc:w.heap.size ≤ gc) (hrc:w.heap.size ≤ rc) (hb:Below w.heap.size w w3) :
  NW w B (w3.heap.size + 1) N me AL 0 ((w3.alloc (.map #[] 0)).alloc (.cells #[.int .u32 0,.int .i64 me,.int .i64 N,.map (some w3.heap.size),.pointer (some ⟨gc,0,none⟩),.slice none 0 0] 169)):=by
 have hz:=hb.size
 have hg:=AU h3.blk
 have hr:=AU h3.map
 have hs:(w3.alloc (.map #[] 0)).heap.size = w3.heap.size + 1:=by simp
 have hb2:Below w3.heap.size w3 ((w3.alloc (.map #[] 0)).alloc (.cells #[.int .u32 0,.int .i64 me,.int .i64 N,.map (some w3.heap.size),.pointer (some ⟨gc,0,none⟩),.slice none 0 0] 169)):=((Below.refl _ _).alloc (Nat.le_refl _) _).alloc (by omega) _
 have hm0:=heap_alloc_new w3 (.map #[] 0)
 have hbm:Below (w3.alloc (.map #[] 0)).heap.size (w3.alloc (.map #[] 0)) ((w3.alloc (.map #[] 0)).alloc (.cells #[.int .u32 0,.int .i64 me,.int .i64 N,.map (some w3.heap.size),.pointer (some ⟨gc,0,none⟩),.slice none 0 0] 169)):=(Below.refl _ _).alloc (Nat.le_refl _) _
 have hblk:=heap_alloc_new (w3.alloc (.map #[] 0)) (.cells #[.int .u32 0,.int .i64 me,.int .i64 N,.map (some w3.heap.size),.pointer (some ⟨gc,0,none⟩),.slice none 0 0] 169)
 rw [hs] at hblk
 have hno:∀ k,¬ (fresh me AL 0).has k:=fun k hk => by have h1:=hk.1; have h2:=hk.2.1; unfold fresh at h2; simp only at h2; omega
 refine ⟨⟨w3.heap.size,gc,fun _ => 0,fun _ => 0⟩,fun c k => c = 1 ∧ (k = gc ∨ k = rc),⟨hblk,⟨#[],0,(hbm.block _ (show w3.heap.size < _ from by omega)).trans hm0,fun k => .inl ⟨Ps.J4 (fun hh => by have h1:=hh.1; have h2:=hh.2.1; unfold fresh at h2; simp only at h2; omega),rfl⟩⟩,fun k hk => (hno k hk).elim,fun k hk => (hno k hk).elim,Kd.Cc _ _ _ _ _,⟨rc,p,q,#[],0,h3.below hb2,hp,hq,hpl,⟨rfl,.inl rfl⟩,⟨rfl,.inr rfl⟩,(show B ≤ gc from by omega),(show B ≤ rc from by omega),fun x hx => by cases hx⟩,fun k hk => ?_,fun i j hi => (hno i hi).elim,fun c k hc hf => ?_,fun c d k hc hd => hc.1.trans hd.1.symm,fun c k hc => ?_⟩,fun k hk => ?_,(hb.mono hB).trans (hb2.mono (by omega)),Nat.le_trans hz hb2.size⟩
 ·rcases hk with hk | hk | ⟨j,hj,_⟩
  ·omega
  ·simp only at hk; omega
  ·exact (hno j hj).elim
 ·rcases hf with hf | hf | ⟨j,hj,_⟩
  ·rcases hc.2 with h | h <;> omega
  ·simp only at hf; rcases hc.2 with h | h <;> omega
  ·exact (hno j hj).elim
 ·have:=hb2.size
  rcases hc.2 with h | h <;> omega
 ·rcases hk with (hk | hk | ⟨j,hj,_⟩) | ⟨c,_,hk⟩
  ·omega
  ·simp only at hk; omega
  ·exact (hno j hj).elim
  ·rcases hk with h | h <;> omega
theorem Oq (me N:Nat) (AL:Int) (hN:1 ≤ N ∧ N ≤ 64) (hme:1 ≤ me ∧ me ≤ N) (hb:0 < AL ∧ AL < 4294967296) (w:World) (B:Nat) (hB:B ≤ w.heap.size):Calls Try.prog 50 #[.int .i64 me,.int .i64 N,.int .u32 AL] w fun e w' => ∃ gp,e = .returned (.tuple #[.pointer (some ⟨gp,0,none⟩),.int .i64 0]) ∧ NW w B gp N me AL N w':=by
 have hd1:decide ((N:Int) < 1) = false:=by simp; omega
 have hd2:decide ((N:Int) > 64) = false:=by simp; omega
 have hd3:decide ((me:Int) < 1) = false:=by simp; omega
 have hd4:decide ((me:Int) > (N:Int)) = false:=by simp; omega
 have hbz:(AL == 0) = false:=by simp; omega
 have hq0:(0:Int) ≤ (me:Int) * me:=Int.mul_nonneg (by omega) (by omega)
 have hq1:(me:Int) * me ≤ 4096:=by have h1:=Int.mul_le_mul (show (me:Int) ≤ 64 by omega) (show (me:Int) ≤ 64 by omega) (by omega) (by omega); omega
 have hd5:decide (N < me) = false:=by simp; omega
 have hnm:¬ N < me:=by omega
 have hfa:=XN (me:Int) (by omega)
 have hfb:=XN ((me:Int) * me % 11) (by omega)
 have zM:=Lib.hid (fun W => Ch.YU (F me) (F ((me:Int) * me % 11)) hfa.2.2 hfb.2.2 (by unfold Bc; rw [hfa.1,hfb.1,hfa.2.1,hfb.2.1]; rfl) W)
 have lZ:=Lib.hid (show F me < 18446744073709551616 ∧ F ((me:Int) * me % 11) < 18446744073709551616 ∧ Bc (F me) (F ((me:Int) * me % 11)) = true from ⟨hfa.2.2,hfb.2.2,by unfold Bc; rw [hfa.1,hfb.1,hfa.2.1,hfb.2.1]; rfl⟩)
 clear hfa hfb
 have hcv:=QY
 have hmm:=fun (W:World) => run_makeMap (P:=Try.prog) 165 W
 have HN:=Lib.hid hN
 have HME:=Lib.hid hme
 have iV:=Lib.hid hb
 have HB:=Lib.hid hB
 clear hN hme hb hB
 go_enter Try.func50,Try.ntmps50
 go_wp2_with (go_at_call 22; (have hz:=zM.out w); (with_reducible refine hz.mono ?_); clear hz; rintro e w3 ⟨gc,rc,rfl,aJ,hgc,hrc,hb3⟩; (have HS:=Lib.hid (NW.start (clk:=0) (es:=#[]) (N:=N) (me:=me) (AL:=AL) HB.out aJ lZ.out.1 lZ.out.2.1 lZ.out.2.2 hgc hrc hb3)); (clear aJ hgc hrc hb3))
 generalize w3.heap.size + 1 = gp at *
 go_loopg [53] N (fun m q wr => ∃ i:Nat,m = N - i ∧ i ≤ N ∧ q = .int .i64 (i:Int) ∧ NW w B gp N me AL i wr)
 case atStart => exact ⟨0,rfl,Nat.zero_le _,rfl,HS.out⟩
 case round =>
  obtain ⟨wo,rfl⟩:∃ wo:World,wo = wr:=⟨_,rfl⟩
  obtain ⟨i,hm,hin,rfl,hF⟩:=hrel
  have HM:=Lib.hid hm
  have XT:=Lib.hid hin
  have HF:=Lib.hid hF
  clear hm hin hF HS
  have U7:=HN.out.2
  by_cases hlt:i < N
  ·have hd:decide ((i:Int) < (N:Int)) = true:=by simp [hlt]
   by_cases him:i + 1 = me
   ·have hq:((i:Int) + 1 == (me:Int)) = true:=by simp; omega
    go_wp2_with fail
    go_roundg (N - (i + 1))
    case measure => have:=HM.out; omega
    case rel =>
     obtain ⟨a,own,h1,h2,h3⟩:=HF.out
     exact ⟨i + 1,rfl,by omega,by first | rfl | simp,a,own,h1.pass him,fun k hk => h2 k (hk.elim (fun hf => .inl (by unfold Ps.fix at hf ⊢; rwa [LK (AL:=AL) (a:=a) (gp:=gp) him] at hf)) .inr),h3⟩
   ·have hq:((i:Int) + 1 == (me:Int)) = false:=by simp; omega
    obtain ⟨a,own,h1,h2,h3,h4⟩:=HF.out
    have H1:=Lib.hid h1
    have H2:=Lib.hid h2
    have H3:=Lib.hid h3
    have H4:=Lib.hid h4
    have zN:=Lib.hid him
    clear h1 h2 h3 h4 him
    go_wp2_with (first | (go_at_call 26; (have hz:=Lk.Oq AL iV.out wo B H1.out.hB); (with_reducible refine hz.mono ?_); clear hz; rintro e w6 ⟨rfl,IE,hb6⟩; (have zO:=Lib.hid (show Lk.End w6 B (fun k => k = wo.heap.size) wo.heap.size (newL AL) from ⟨_,_,_,_,IE,fun k hk => hk.elim (fun h => h.elim) (fun h => h.elim (fun h => h.elim) id)⟩)); (have Ph:=Lib.hid (AU IE.blk)); (have Sl:=Lib.hid hb6); (clear IE hb6)) | (go_at_call 27; (have hz:=Jy zO.out (Nat.le_trans H1.out.hB Sl.out.size) (QL AL iV.out)); (with_reducible refine hz.mono ?_); clear hz; rintro e w7 ⟨rfl,ht⟩; (have iZ:=Lib.hid (show Below wo.heap.size wo w7 from ⟨ht.2.2.os.trans Sl.out.os,ht.2.2.tape.trans Sl.out.tape,ht.2.2.output.trans Sl.out.output,Nat.le_trans Sl.out.size ht.2.2.size,fun j hj => (ht.2.1.2 j (Nat.lt_of_lt_of_le hj Sl.out.size) (by omega)).trans (Sl.out.block j hj)⟩)); (have zQ:=Lib.hid ht.1); (have hc3:w7.cell? ⟨gp,3,none⟩ = some (.map (some a.r)):=(AA (H1.out.sub iZ.out).blk 3).trans rfl); (have hb8:Below w7.heap.size w7 (w7.alloc (.cells #[.pointer (some ⟨wo.heap.size,0,none⟩),.int .i64 0,.int .u32 0] 172)):=(Below.refl _ _).alloc (Nat.le_refl _) _); (have qo:=ht.2.2.size); (have Qi:=Lib.hid (show wo.heap.size < w7.heap.size from Nat.lt_of_lt_of_le Ph.out qo)); (have bC:=Sl.out.size); (have lg:=Lib.hid (show wo.heap.size ≤ w6.heap.size from bC)); (obtain ⟨w9,hrun,Zp,Ij⟩:=Mp.put (x:=w7.heap.size) ((H1.out.sub iZ.out).sub hb8).map ((i:Int) + 1) (Ps.J4 (fun hh => by have h1:=hh.2.1; unfold fresh at h1; simp only at h1; omega))); (have zS:=Lib.hid Zp); (have EW:=Lib.hid Ij); (have YY:=Lib.hid hb8); (clear ht hb8 qo bC Zp Ij)))
    go_roundg (N - (i + 1))
    case measure => have:=HM.out; omega
    case rel =>
     have hs8:(w7.alloc (.cells #[.pointer (some ⟨wo.heap.size,0,none⟩),.int .i64 0,.int .u32 0] 172)).heap.size = w7.heap.size + 1:=by simp
     have hb48:=iZ.out.trans (YY.out.mono iZ.out.size)
     have He:=Qi.out
     have hz:=lg.out
     have hP:=H1.out.add zN.out hb48 (o:=fun k => k = wo.heap.size ∨ w6.heap.size ≤ k ∧ k < w7.heap.size) (zQ.out.kept (Kept.of_below YY.out (fun _ => False)) (fun _ _ h => h)) (fun k hk => by rcases hk with hk | hk <;> omega) (heap_alloc_new w7 (.cells #[.pointer (some ⟨wo.heap.size,0,none⟩),.int .i64 0,.int .u32 0] 172)) (by omega) (fun hk => by rcases hk with hk | hk <;> omega) zS.out EW.out
     refine ⟨i + 1,rfl,by omega,by first | rfl | simp,_,_,hP,fun k hk => ?_,?_,?_⟩
     ·have h4:=H4.out
      rcases hk with (hk | hk | ⟨j,hj,he⟩) | ⟨c,hc | ⟨_,hc⟩⟩
      ·exact H2.out k (.inl (.inl hk))
      ·exact H2.out k (.inl (.inr (.inl hk)))
      ·by_cases hji:j = i + 1
       ·simp only [hji,if_pos] at he
        omega
       ·simp only [if_neg hji] at he
        exact H2.out k (.inl (.inr (.inr ⟨j,⟨hj.1,by have h1:=hj.2.1; unfold fresh at h1 ⊢; simp only at h1 ⊢; omega,hj.2.2⟩,he⟩)))
      ·exact H2.out k (.inr ⟨c,hc⟩)
      ·rcases hc with hc | hc <;> omega
     ·exact (H3.out.trans (hb48.mono H1.out.hB)).trans (EW.out.below (Below.refl _ _) (H1.out.low _ (.inr (.inl rfl))))
     ·have h1:=EW.out.size
      have h4:=H4.out
      omega
  ·have hd:decide ((i:Int) < (N:Int)) = false:=by simp; omega
   have hie:i = N:=by have:=XT.out; omega
   go_wp2_with fail
   go_ret2
   exact ⟨gp,rfl,hie ▸ HF.out⟩
end Go.Proofs.Ytnkkgofpifhoeaa.Pe
end
