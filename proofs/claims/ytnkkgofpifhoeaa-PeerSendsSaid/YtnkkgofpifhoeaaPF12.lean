/- What the laws of a pair are proved with: links and pairs in memory, what their methods do, what a pair keeps to (part 12). -/
import Derived.Test.YtnkkgofpifhoeaaPF11
set_option linter.unusedSimpArgs false
set_option linter.unusedVariables false
set_option maxRecDepth 100000
set_option maxHeartbeats 16000000
section
namespace Go.Proofs.Ytnkkgofpifhoeaa.Lk
open Go.RowKit Go.Proofs.Ytnkkgofpifhoeaa.Base Go.Proofs.Ytnkkgofpifhoeaa.Steps Go.Proofs.YtnkkgofpifhoeaaW.PrintWords Go.Proofs.YtnkkgofpifhoeaaW.PrintLast
def emit_ (L:Lk) (p:BL):Lk:=if L.out.length < 1024 then { L with out:=L.out ++ [p] } else L
theorem O6 {L:Lk} (h:L.Ok) (p:BL):(emit_ L p).Ok:=by
 unfold emit_
 split
 ·exact ⟨h.own,h.phase,h.token,h.AL,h.yours,h.queue,h.rows,h.sent,h.base,h.expected,h.idle,by simp; omega⟩
 ·exact h
def Bd (w:World) (B:Nat) (Af Ac:Nat → Prop) (g:Nat) (L:Lk) (q:Value) (w':World):Prop :=
 ∃ o,At w' B Af (fun k => Ac k ∨ w.heap.size ≤ k ∧ k < w'.heap.size) g L q o ∧ Kept w w' (fun k => Ac k ∨ k = g) ∧ Below B w w'
theorem Vu:(Try.prog.info? 27).map (fun i => (i.zero,i.size,i.bytes)) = some (some (.agg #[.int .i64 0,.int .u32 0,.int .u32 0,.int .u32 0,.int .u32 0,.int .u32 0,.int .u32 0,.int .u32 0,.complex .f64 0 0,.slice none 0 0]),10,80):=by kernel_rfl
theorem Rq {w:World} {B:Nat} {C9 ok:Nat → Prop} {p:BL} {cs:List Value} {o:Value} {ps:List BL} (hM:pkt.M w B C9 p cs) (ho:pkt.R 27 w B ok o ps):pkt.M w B (fun k => C9 k ∧ some k ≠ o.ownBlock) p cs:=by
 refine pkt.CW (fun k hk => ?_) (pkt.DI hM)
 obtain ⟨h1,_,_,t,ht,c,hc⟩:=hk
 refine ⟨h1,fun he => ?_⟩
 obtain ⟨_,inner,ho2,_⟩:=ho
 obtain ⟨c2,hc2⟩:=GZ ho2 k he.symm
 rw [hc] at hc2
 injection hc2 with hc2
 injection hc2 with _ hc2 _
 subst hc2
 rw [Xv] at ht
 exact absurd ht (by decide)
theorem At.put' {w:World} {B g:Nat} {GK JR:Nat → Prop} {L':Lk} {q' o':Value} {cs:Array Value} (hb:w.heap[g]? = some (.cells cs 131 (0,0))) (i:Nat) (u:Value) (e:cs.setIfInBounds i u = row L' q' o')
  (hq:bytes.Q 22 w B GK q' L'.queue) (hout:pkt.R 27 w B JR o' L'.out) (low:B ≤ g) (hap:∀ k,GK k → ¬ JR k) (hold:∀ k,GK k ∨ JR k → k < w.heap.size ∧ k ≠ g):At (w.setCell ⟨g,i,none⟩ u) B GK JR g L' q' o':=by
 have hk:Kept w (w.setCell ⟨g,i,none⟩ u) (fun k => k = g):=Kept.setCell (S:=fun k => k = g) (Kept.refl w _) (p:=⟨g,i,none⟩) (.inl rfl) u
 exact ⟨AQ hb i u e,Kd.Kt hq hk (fun k ho => (hold k (.inl ho)).2),Kd.BJ hout hk (fun k ho => (hold k (.inr ho)).2),low,hap,fun k hk' => ⟨Nat.lt_of_lt_of_le (hold k hk').1 hk.1,(hold k hk').2⟩⟩
theorem Ef {w:World} {B g:Nat} {Af Ac C9:Nat → Prop} {L:Lk} {q o:Value} (p:BL) (b:Value) (h:At w B Af Ac g L q o) (hok:L.Ok) (hB:B ≤ w.heap.size) (hM:pkt.M w B C9 p (cells p b)) (Fg:∀ k,C9 k → Ac k) :
  Calls Try.prog 80 #[.pointer (some ⟨g,0,none⟩),.agg #[.int .i64 p.kind,.int .u32 p.mine,.int .u32 p.AL,.int .u32 p.yours,.int .u32 p.seq,.int .u32 p.AX,.int .u32 p.stamp,.int .u32 p.echo,.complex .f64 p.zr p.zi,b]] w fun e w' => e = .returned (.tuple #[]) ∧ Bd w B Af Ac g (emit_ L p) q w':=by
 obtain ⟨A,c,ho⟩:=Kd.BA h.out
 subst ho
 have hol:=hok.out
 have hb0:Below w.heap.size w (w.alloc (.cells #[.int .i64 p.kind,.int .u32 p.mine,.int .u32 p.AL,.int .u32 p.yours,.int .u32 p.seq,.int .u32 p.AX,.int .u32 p.stamp,.int .u32 p.echo,.complex .f64 p.zr p.zi,b] 27)):=(Below.refl _ _).alloc (Nat.le_refl _) _
 have H1:=Lib.hid (h.below hb0)
 have H0:=Lib.hid h
 have HM:=Lib.hid (Rq hM h.out)
 have HP:=Lib.hid Fg
 have Vw:(w.alloc (.cells #[.int .i64 p.kind,.int .u32 p.mine,.int .u32 p.AL,.int .u32 p.yours,.int .u32 p.seq,.int .u32 p.AX,.int .u32 p.stamp,.int .u32 p.echo,.complex .f64 p.zr p.zi,b] 27)).cell? ⟨g,11,none⟩ = some (.slice A L.out.length c):=(AA H1.out.blk 11).trans rfl
 have hcb:=heap_alloc_new w (.cells #[.int .i64 p.kind,.int .u32 p.mine,.int .u32 p.AL,.int .u32 p.yours,.int .u32 p.seq,.int .u32 p.AX,.int .u32 p.stamp,.int .u32 p.echo,.complex .f64 p.zr p.zi,b] 27)
 have HB0:=Lib.hid hb0
 have VJ:=Lib.hid hcb
 clear h hb0 hM Fg hok hcb
 go_enter Try.func80,Try.ntmps80
 go_wp2_with fail
 rotate_left
 ·go_end0
  have hL:emit_ L p = L:=by unfold emit_; rw [if_neg (by omega)]
  rw [hL]
  refine ⟨rfl,.slice A L.out.length c,⟨H1.out.blk,H1.out.queue,Kd.Az H1.out.out (fun _ hk => .inl hk),H1.out.low,fun k hk ho => ho.elim (H1.out.apart k hk) (fun hn => by have:=(H0.out.old k (.inl hk)).1; omega),fun k hk => ?_⟩,Kept.of_below HB0.out _,HB0.out.mono hB⟩
  have hgl:g < w.heap.size:=AU H0.out.blk
  rcases hk with hk | hk | hk
  ·exact H1.out.old k (.inl hk)
  ·exact H1.out.old k (.inr hk)
  ·exact ⟨hk.2,by omega⟩
 have hL:emit_ L p = { L with out:=L.out ++ [p] }:=by unfold emit_; rw [if_pos (by omega)]
 have hbd:Below w.heap.size w (w.alloc (.cells #[.int .i64 p.kind,.int .u32 p.mine,.int .u32 p.AL,.int .u32 p.yours,.int .u32 p.seq,.int .u32 p.AX,.int .u32 p.stamp,.int .u32 p.echo,.complex .f64 p.zr p.zi,b] 27)).drew:=Am HB0.out
 have hSS:(w.alloc (.cells #[.int .i64 p.kind,.int .u32 p.mine,.int .u32 p.AL,.int .u32 p.yours,.int .u32 p.seq,.int .u32 p.AX,.int .u32 p.stamp,.int .u32 p.echo,.complex .f64 p.zr p.zi,b] 27)).drew.heap[g]? = some (.cells (row L q (.slice A L.out.length c)) 131 (0,0)) ∧ (w.alloc (.cells #[.int .i64 p.kind,.int .u32 p.mine,.int .u32 p.AL,.int .u32 p.yours,.int .u32 p.seq,.int .u32 p.AX,.int .u32 p.stamp,.int .u32 p.echo,.complex .f64 p.zr p.zi,b] 27)).drew.heap[w.heap.size]? = some (.cells #[.int .i64 p.kind,.int .u32 p.mine,.int .u32 p.AL,.int .u32 p.yours,.int .u32 p.seq,.int .u32 p.AX,.int .u32 p.stamp,.int .u32 p.echo,.complex .f64 p.zr p.zi,b] 27 (0,0)):=⟨H1.out.blk,VJ.out⟩
 have hsz0:(w.alloc (.cells #[.int .i64 p.kind,.int .u32 p.mine,.int .u32 p.AL,.int .u32 p.yours,.int .u32 p.seq,.int .u32 p.AX,.int .u32 p.stamp,.int .u32 p.echo,.complex .f64 p.zr p.zi,b] 27)).drew.heap.size = w.heap.size + 1:=by simp [World.drew]
 clear H1 HB0 VJ Vw
 refine BC (n:=11) (S:=fun w' => w'.heap[g]? = some (.cells (row L q (.slice A L.out.length c)) 131 (0,0)) ∧ w'.heap[w.heap.size]? = some (.cells #[.int .i64 p.kind,.int .u32 p.mine,.int .u32 p.AL,.int .u32 p.yours,.int .u32 p.seq,.int .u32 p.AX,.int .u32 p.stamp,.int .u32 p.echo,.complex .f64 p.zr p.zi,b] 27 (0,0))) (ds:=[10]) oI (by kernel_rfl) rfl rfl (hSS) (fun hHeld => ?_)
 generalize (w.alloc (.cells #[.int .i64 p.kind,.int .u32 p.mine,.int .u32 p.AL,.int .u32 p.yours,.int .u32 p.seq,.int .u32 p.AX,.int .u32 p.stamp,.int .u32 p.echo,.complex .f64 p.zr p.zi,b] 27)).drew = w2 at hbd hsz0 hHeld ⊢
 have Jy:=Lib.hid hbd
 have Uk:=Lib.hid hsz0
 clear hbd hsz0
 refine pu 0 10 oK ?_
 refine pu 1 11 oL ?_
 refine pu 2 12 oM ?_
 refine pu 3 13 oN ?_
 refine tk 4 14 oO hHeld ?_ (hf:=by intro w' s0; have Vw:w'.cell? ⟨g,11,none⟩ = some (.slice A L.out.length c):=(AA s0.1 11).trans rfl; clear s0; go_simp; with_reducible rfl)
 refine tk 5 15 oP hHeld ?_ (hf:=by intro w' s0; have DV:=Try.underlying27; have hc0:w'.cell? ⟨w.heap.size,0,none⟩ = some (.int .i64 p.kind):=(AA s0.2 0).trans rfl; have hc1:w'.cell? ⟨w.heap.size,1,none⟩ = some (.int .u32 p.mine):=(AA s0.2 1).trans rfl; have hc2:w'.cell? ⟨w.heap.size,2,none⟩ = some (.int .u32 p.AL):=(AA s0.2 2).trans rfl; have hc3:w'.cell? ⟨w.heap.size,3,none⟩ = some (.int .u32 p.yours):=(AA s0.2 3).trans rfl; have hc4:w'.cell? ⟨w.heap.size,4,none⟩ = some (.int .u32 p.seq):=(AA s0.2 4).trans rfl; have hc5:w'.cell? ⟨w.heap.size,5,none⟩ = some (.int .u32 p.AX):=(AA s0.2 5).trans rfl; have hc6:w'.cell? ⟨w.heap.size,6,none⟩ = some (.int .u32 p.stamp):=(AA s0.2 6).trans rfl; have Hq:w'.cell? ⟨w.heap.size,7,none⟩ = some (.int .u32 p.echo):=(AA s0.2 7).trans rfl; have hc8:w'.cell? ⟨w.heap.size,8,none⟩ = some (.complex .f64 p.zr p.zi):=(AA s0.2 8).trans rfl; have Gv:w'.cell? ⟨w.heap.size,9,none⟩ = some (b):=(AA s0.2 9).trans rfl; clear s0; go_simp; try rfl)
 refine on 6 (some 16) oU fun K hK => ?_
 refine GH (v:=.slice (some ⟨w2.heap.size,0,none⟩) 1 1) (by rfl) rfl (w1:=w2.alloc (.cells #[.int .i64 p.kind,.int .u32 p.mine,.int .u32 p.AL,.int .u32 p.yours,.int .u32 p.seq,.int .u32 p.AX,.int .u32 p.stamp,.int .u32 p.echo,.complex .f64 p.zr p.zi,b] 27)) ?_ ?_
 ·first | (go_simp; done) | (go_simp; rfl)
 have hb2:=(Below.refl w2.heap.size w2).alloc (Nat.le_refl _) (.cells #[.int .i64 p.kind,.int .u32 p.mine,.int .u32 p.AL,.int .u32 p.yours,.int .u32 p.seq,.int .u32 p.AX,.int .u32 p.stamp,.int .u32 p.echo,.complex .f64 p.zr p.zi,b] 27)
 have HS2:=Lib.hid hHeld
 refine hK.out _ _ ⟨(hb2.block g (AU hHeld.1)).trans hHeld.1,(hb2.block w.heap.size (AU hHeld.2)).trans hHeld.2⟩ (fun hHeld => ?_)
 clear hK K
 refine nm 16 ?_
 refine on 7 (some 17) oW fun K hK => ?_
 have hQ2:=H0.out.below Jy.out
 have hM2:=Kd.Vf HM.out (Kept.of_below Jy.out (fun _ => False)) (fun _ _ hf => hf)
 refine Kd.Ju pkt (w0:=w) B (by rfl) (.tmp 14) (.tmp 16) 53 27 (.agg #[.int .i64 0,.int .u32 0,.int .u32 0,.int .u32 0,.int .u32 0,.int .u32 0,.int .u32 0,.int .u32 0,.complex .f64 0 0,.slice none 0 0]) 80 rfl Try.underlying53 Vu rfl (by decide) (by decide) _ _ p (cells p b) (fun k => Ac k ∨ w.heap.size ≤ k) (fun k => C9 k ∧ some k ≠ (Value.slice A L.out.length c).ownBlock) rfl rfl hM2 (fun k hk => ⟨.inl (HP.out k hk.1),hk.2⟩) (fun k hk => .inr (by have:=Uk.out; omega)) (Kd.Az hQ2.out (fun _ hk => .inl hk)) (Jy.out.mono hB) (by have:=Uk.out; omega) (by omega) ?_
 intro o1 w3 hR hbl hg _
 obtain ⟨A1,c1,ho1⟩:=Kd.BA hR
 generalize (L.out ++ [p]).length = n1 at ho1
 subst ho1
 have hown:∀ k,(Value.slice A L.out.length c).ownBlock = some k → Ac k:=H0.out.out.1
 have hK3:Kept w w3 Ac:=Kept.Eo hg (Kept.of_below Jy.out Ac) (fun k hk => .inl (hown k hk))
 have dH:w3.heap[g]? = some (.cells (row L q (.slice A L.out.length c)) 131 (0,0)):=Ah H0.out.blk hK3 (fun ho => (H0.out.old g (.inr ho)).2 rfl)
 have jK:w3.heap[w.heap.size]? = some (.cells #[.int .i64 p.kind,.int .u32 p.mine,.int .u32 p.AL,.int .u32 p.yours,.int .u32 p.seq,.int .u32 p.AX,.int .u32 p.stamp,.int .u32 p.echo,.complex .f64 p.zr p.zi,b] 27 (0,0)):=(hg.block w.heap.size (AU HS2.out.2) (fun he => by have:=(H0.out.old _ (.inr (hown _ he.symm))).1; omega)).trans HS2.out.2
 have XO:=Lib.hid hK3
 have dI:=Lib.hid dH
 have HR3:=Lib.hid hR
 have XP:=Lib.hid hbl
 have uJ:=Lib.hid hg.size
 clear hR hbl hg hown HS2 hQ2 hM2 hK3 HM HP hHeld
 refine hK.out _ _ ⟨dH,jK⟩ (fun hHeld => ?_)
 clear hK K dH jK
 refine nm 17 ?_
 refine pu 8 18 og ?_
 refine pu 9 19 ou ?_
 refine la 10 none o5 fun K hK => ?_
 have hz1:w3.cell? ⟨g,11,none⟩ = some (.slice A L.out.length c):=(AA dI.out 11).trans rfl
 have hz2:=AB dI.out 11
 refine BN (fun wz => At wz B Af (fun k => Ac k ∨ w.heap.size ≤ k ∧ k < w3.heap.size) g { L with out:=L.out ++ [p] } q (.slice A1 n1 c1) ∧ wz.heap.size = w3.heap.size ∧ Kept w wz (fun k => Ac k ∨ k = g) ∧ Below B w wz ∧ wz.heap[w.heap.size]? = some (.cells #[.int .i64 p.kind,.int .u32 p.mine,.int .u32 p.AL,.int .u32 p.yours,.int .u32 p.seq,.int .u32 p.AX,.int .u32 p.stamp,.int .u32 p.echo,.complex .f64 p.zr p.zi,b] 27 (0,0))) (by rfl) rfl ⟨_,by first | (go_simp; done) | (go_simp; rfl),?_,?_,?_,?_,?_⟩ (fun w4 hF => ?_)
 ·have hsz:=XO.out.1
  refine At.put' dI.out 11 _ rfl (Kd.Kt H0.out.queue XO.out (fun k ho => H0.out.apart k ho)) (Kd.Az (Kd.CG HR3.out) (fun k hk => hk.1.elim (fun h => .inl h) (fun h => .inr ⟨h,hk.2.2.1⟩))) H0.out.low (fun k hk ho => ho.elim (H0.out.apart k hk) (fun hn => by have:=(H0.out.old k (.inl hk)).1; omega)) (fun k hk => ?_)
  have hgl:g < w.heap.size:=AU H0.out.blk
  rcases hk with hk | hk | hk
  ·have:=H0.out.old k (.inl hk); exact ⟨by omega,this.2⟩
  ·have:=H0.out.old k (.inr hk); exact ⟨by omega,this.2⟩
  ·exact ⟨hk.2,by omega⟩
 ·simp [World.setCell]
 ·exact (XO.out.mono (fun k hk => .inl hk)).setCell (p:=⟨g,11,none⟩) (.inl (.inr rfl)) _
 ·exact XP.out.setCell (p:=⟨g,11,none⟩) H0.out.low _
 ·exact (Below.heap_setCell w3 ⟨g,11,none⟩ _ w.heap.size (by have:=AU H0.out.blk; show w.heap.size ≠ g; omega)).trans hHeld.2
 have HF:=Lib.hid hF
 clear hF hz1 hz2 hHeld
 refine hK.out _ _ ?_
 clear hK K
 refine BU (by kernel_rfl) ?_
 go_wp2
 go_end0
 have hL:emit_ L p = { L with out:=L.out ++ [p] }:=by unfold emit_; rw [if_pos (by omega)]
 rw [hL]
 refine ⟨rfl,.slice A1 n1 c1,?_,HF.out.2.2.1,HF.out.2.2.2.1⟩
 rw [HF.out.2.1]
 exact HF.out.1
def Cf (L:Lk):BL:=⟨1,L.token,if L.known then L.AL else 0,if L.known then L.yours else 0,if L.phase = 2 then 1 else 0,0,0,0,0,0,[]⟩
def HB (w0:World) (g r:Nat) (L:Lk) (q o:Value) (mine AL yours seq:Int) (w:World):Prop :=
 w.heap[g]? = some (.cells (row L q o) 131 (0,0)) ∧ w.heap[r]? = some (.cells #[.int .i64 1,.int .u32 mine,.int .u32 AL,.int .u32 yours,.int .u32 seq,.int .u32 0,.int .u32 0,.int .u32 0,.complex .f64 0 0,.slice none 0 0] 27 (0,0)) ∧ Below w0.heap.size w0 w
theorem Bd.from_ {w w2 w':World} {B g:Nat} {Af Ac:Nat → Prop} {L:Lk} {q:Value} (hq:∀ k,Af k → k < w.heap.size) (hg:g < w.heap.size) (hb:Below w.heap.size w w2) (hB:B ≤ w.heap.size) (h:Bd w2 B Af Ac g L q w'):Bd w B Af Ac g L q w':=by
 obtain ⟨o,h1,h2,h3⟩:=h
 have hs:=hb.size
 refine ⟨o,⟨h1.blk,h1.queue,Kd.Az h1.out (fun k hk => hk.elim (fun h => .inl h) (fun h => .inr ⟨by omega,h.2⟩)),h1.low,fun k hk ho => ?_,fun k hk => ?_⟩,(Kept.of_below hb _).Dp h2 (fun k hk => .inl hk),(hb.mono hB).trans h3⟩
 ·rcases ho with ho | ho
  ·exact h1.apart k hk (.inl ho)
  ·have:=hq k hk; omega
 ·rcases hk with hk | hk | hk
  ·exact h1.old k (.inl hk)
  ·exact h1.old k (.inr (.inl hk))
  ·exact ⟨hk.2,by omega⟩
theorem Rt {w:World} {B g:Nat} {Af Ac:Nat → Prop} {L:Lk} {q o:Value} (h:At w B Af Ac g L q o) (hok:L.Ok) (hB:B ≤ w.heap.size) (hkn:L.known = false) (DX:¬ L.phase = 2) :
  Calls Try.prog 73 #[.pointer (some ⟨g,0,none⟩)] w fun e w' => e = .returned (.tuple #[]) ∧ Bd w B Af Ac g (emit_ L (⟨1,L.token,0,0,0,0,0,0,0,0,[]⟩:BL)) q w':=by
 have hc2:w.cell? ⟨g,2,none⟩ = some (.int .u32 L.token):=(AA h.blk 2).trans rfl
 have hgl:g < w.heap.size:=AU h.blk
 have H0:=Lib.hid h
 have OK:=Lib.hid hok
 have Vx:=Lib.hid hkn
 have EO:=Lib.hid DX
 clear h hok hkn
 go_enter Try.func73,Try.ntmps73
 go_wp2_with (first | ((with_reducible refine gate_ (.store 27 (.tmp 2) (.tmp 7)) rfl ?_); (refine Ae rfl rfl 27 (.tmp 2) (.tmp 7) rfl w.heap.size _ rfl rfl 27 _ (heap_alloc_new w _) (by kernel_rfl) rfl (by kernel_rfl) ?_); (intro w1 hb1 Em); (have hbl:=Em.below ((Below.refl w.heap.size w).alloc (Nat.le_refl _) _) (Nat.le_refl _)); (have HW:=Lib.hid (show HB w g w.heap.size L q o L.token 0 0 0 w1 from ⟨(hbl.block g hgl).trans H0.out.blk,hb1,hbl⟩)); (have hc5:w1.cell? ⟨g,5,none⟩ = some (.bool false):=(AA HW.out.1 5).trans (by rw [← Vx.out]; rfl)); (clear hb1 Em hbl hc2); (have hc1:w1.cell? ⟨g,1,none⟩ = some (.int .i64 L.phase):=(AA HW.out.1 1).trans rfl); (have DX:=EO.out)) | ((with_reducible refine gate_ (.store 24 (.tmp 27) (.const (.int .u32 1))) rfl ?_); (refine AZ (fun wz => HB w g w.heap.size L q o L.token 0 0 1 wz) rfl rfl ⟨_,(by have hz1:World.cell? _ ⟨w.heap.size,4,none⟩ = some _:=(AA HW.out.2.1 4).trans rfl; have hz2:=AB HW.out.2.1 4; first | (go_simp; done) | (go_simp; rfl)),(Below.heap_setCell _ ⟨w.heap.size,4,none⟩ _ g (by show g ≠ w.heap.size; omega)).trans HW.out.1,AQ HW.out.2.1 4 _ rfl,HW.out.2.2.setCell (p:=⟨w.heap.size,4,none⟩) (Nat.le_refl _) _⟩ (fun w5 hF => ?_)); (have Aq:=Lib.hid hF); (clear hF HW hc1); (have HW:=Aq); (clear Aq)) | ((with_reducible refine AV (N:=29) rfl ?_); (refine I9 (fun v wz => v = .agg #[.int .i64 1,.int .u32 L.token,.int .u32 0,.int .u32 0,.int .u32 0,.int .u32 0,.int .u32 0,.int .u32 0,.complex .f64 0 0,.slice none 0 0] ∧ HB w g w.heap.size L q o L.token 0 0 0 wz) rfl ⟨.agg #[.int .i64 1,.int .u32 L.token,.int .u32 0,.int .u32 0,.int .u32 0,.int .u32 0,.int .u32 0,.int .u32 0,.complex .f64 0 0,.slice none 0 0],_,(by have DV:=Try.underlying27; have hd0:World.cell? _ ⟨w.heap.size,0,none⟩ = some (.int .i64 1):=(AA HW.out.2.1 0).trans rfl; have hd1:World.cell? _ ⟨w.heap.size,1,none⟩ = some (.int .u32 L.token):=(AA HW.out.2.1 1).trans rfl; have hd2:World.cell? _ ⟨w.heap.size,2,none⟩ = some (.int .u32 0):=(AA HW.out.2.1 2).trans rfl; have hd3:World.cell? _ ⟨w.heap.size,3,none⟩ = some (.int .u32 0):=(AA HW.out.2.1 3).trans rfl; have hd4:World.cell? _ ⟨w.heap.size,4,none⟩ = some (.int .u32 0):=(AA HW.out.2.1 4).trans rfl; have hd5:World.cell? _ ⟨w.heap.size,5,none⟩ = some (.int .u32 0):=(AA HW.out.2.1 5).trans rfl; have hd6:World.cell? _ ⟨w.heap.size,6,none⟩ = some (.int .u32 0):=(AA HW.out.2.1 6).trans rfl; have hd7:World.cell? _ ⟨w.heap.size,7,none⟩ = some (.int .u32 0):=(AA HW.out.2.1 7).trans rfl; have hd8:World.cell? _ ⟨w.heap.size,8,none⟩ = some (.complex .f64 0 0):=(AA HW.out.2.1 8).trans rfl; have hd9:World.cell? _ ⟨w.heap.size,9,none⟩ = some (.slice none 0 0):=(AA HW.out.2.1 9).trans rfl; first | (go_simp; done) | (go_simp; rfl)),rfl,HW.out⟩ (fun v9 w8 hF => ?_)); (obtain ⟨rfl,hF2⟩:=hF); (have Aq:=Lib.hid hF2); (clear hF2 HW); (have HW:=Aq); (clear Aq)) | (go_at_call 80; (refine (Ef (⟨1,L.token,0,0,0,0,0,0,0,0,[]⟩:BL) (.slice none 0 0) (H0.out.below HW.out.2.2) OK.out (Nat.le_trans hB HW.out.2.2.size) (C9:=fun _ => False) (F6.2 ⟨_,rfl,Kd.CZ _ _ _ _ _⟩) (fun _ hk => hk.elim)).mono ?_); (rintro e w9 ⟨rfl,hE⟩); (have HE:=Lib.hid (Bd.from_ (fun k hk => (H0.out.old k (.inl hk)).1) hgl HW.out.2.2 hB hE)); (clear hE HW)))
 all_goals (go_end0; exact ⟨rfl,HE.out⟩)
theorem Ru {w:World} {B g:Nat} {Af Ac:Nat → Prop} {L:Lk} {q o:Value} (h:At w B Af Ac g L q o) (hok:L.Ok) (hB:B ≤ w.heap.size) (hkn:L.known = false) (DX:L.phase = 2) :
  Calls Try.prog 73 #[.pointer (some ⟨g,0,none⟩)] w fun e w' => e = .returned (.tuple #[]) ∧ Bd w B Af Ac g (emit_ L (⟨1,L.token,0,0,1,0,0,0,0,0,[]⟩:BL)) q w':=by
 have hc2:w.cell? ⟨g,2,none⟩ = some (.int .u32 L.token):=(AA h.blk 2).trans rfl
 have hgl:g < w.heap.size:=AU h.blk
 have H0:=Lib.hid h
 have OK:=Lib.hid hok
 have Vx:=Lib.hid hkn
 have EO:=Lib.hid DX
 clear h hok hkn
 go_enter Try.func73,Try.ntmps73
 go_wp2_with (first | ((with_reducible refine gate_ (.store 27 (.tmp 2) (.tmp 7)) rfl ?_); (refine Ae rfl rfl 27 (.tmp 2) (.tmp 7) rfl w.heap.size _ rfl rfl 27 _ (heap_alloc_new w _) (by kernel_rfl) rfl (by kernel_rfl) ?_); (intro w1 hb1 Em); (have hbl:=Em.below ((Below.refl w.heap.size w).alloc (Nat.le_refl _) _) (Nat.le_refl _)); (have HW:=Lib.hid (show HB w g w.heap.size L q o L.token 0 0 0 w1 from ⟨(hbl.block g hgl).trans H0.out.blk,hb1,hbl⟩)); (have hc5:w1.cell? ⟨g,5,none⟩ = some (.bool false):=(AA HW.out.1 5).trans (by rw [← Vx.out]; rfl)); (clear hb1 Em hbl hc2); (have hc1:w1.cell? ⟨g,1,none⟩ = some (.int .i64 L.phase):=(AA HW.out.1 1).trans rfl); (have DX:=EO.out)) | ((with_reducible refine gate_ (.store 24 (.tmp 27) (.const (.int .u32 1))) rfl ?_); (refine AZ (fun wz => HB w g w.heap.size L q o L.token 0 0 1 wz) rfl rfl ⟨_,(by have hz1:World.cell? _ ⟨w.heap.size,4,none⟩ = some _:=(AA HW.out.2.1 4).trans rfl; have hz2:=AB HW.out.2.1 4; first | (go_simp; done) | (go_simp; rfl)),(Below.heap_setCell _ ⟨w.heap.size,4,none⟩ _ g (by show g ≠ w.heap.size; omega)).trans HW.out.1,AQ HW.out.2.1 4 _ rfl,HW.out.2.2.setCell (p:=⟨w.heap.size,4,none⟩) (Nat.le_refl _) _⟩ (fun w5 hF => ?_)); (have Aq:=Lib.hid hF); (clear hF HW hc1); (have HW:=Aq); (clear Aq)) | ((with_reducible refine AV (N:=29) rfl ?_); (refine I9 (fun v wz => v = .agg #[.int .i64 1,.int .u32 L.token,.int .u32 0,.int .u32 0,.int .u32 1,.int .u32 0,.int .u32 0,.int .u32 0,.complex .f64 0 0,.slice none 0 0] ∧ HB w g w.heap.size L q o L.token 0 0 1 wz) rfl ⟨.agg #[.int .i64 1,.int .u32 L.token,.int .u32 0,.int .u32 0,.int .u32 1,.int .u32 0,.int .u32 0,.int .u32 0,.complex .f64 0 0,.slice none 0 0],_,(by have DV:=Try.underlying27; have hd0:World.cell? _ ⟨w.heap.size,0,none⟩ = some (.int .i64 1):=(AA HW.out.2.1 0).trans rfl; have hd1:World.cell? _ ⟨w.heap.size,1,none⟩ = some (.int .u32 L.token):=(AA HW.out.2.1 1).trans rfl; have hd2:World.cell? _ ⟨w.heap.size,2,none⟩ = some (.int .u32 0):=(AA HW.out.2.1 2).trans rfl; have hd3:World.cell? _ ⟨w.heap.size,3,none⟩ = some (.int .u32 0):=(AA HW.out.2.1 3).trans rfl; have hd4:World.cell? _ ⟨w.heap.size,4,none⟩ = some (.int .u32 1):=(AA HW.out.2.1 4).trans rfl; have hd5:World.cell? _ ⟨w.heap.size,5,none⟩ = some (.int .u32 0):=(AA HW.out.2.1 5).trans rfl; have hd6:World.cell? _ ⟨w.heap.size,6,none⟩ = some (.int .u32 0):=(AA HW.out.2.1 6).trans rfl; have hd7:World.cell? _ ⟨w.heap.size,7,none⟩ = some (.int .u32 0):=(AA HW.out.2.1 7).trans rfl; have hd8:World.cell? _ ⟨w.heap.size,8,none⟩ = some (.complex .f64 0 0):=(AA HW.out.2.1 8).trans rfl; have hd9:World.cell? _ ⟨w.heap.size,9,none⟩ = some (.slice none 0 0):=(AA HW.out.2.1 9).trans rfl; first | (go_simp; done) | (go_simp; rfl)),rfl,HW.out⟩ (fun v9 w8 hF => ?_)); (obtain ⟨rfl,hF2⟩:=hF); (have Aq:=Lib.hid hF2); (clear hF2 HW); (have HW:=Aq); (clear Aq)) | (go_at_call 80; (refine (Ef (⟨1,L.token,0,0,1,0,0,0,0,0,[]⟩:BL) (.slice none 0 0) (H0.out.below HW.out.2.2) OK.out (Nat.le_trans hB HW.out.2.2.size) (C9:=fun _ => False) (F6.2 ⟨_,rfl,Kd.CZ _ _ _ _ _⟩) (fun _ hk => hk.elim)).mono ?_); (rintro e w9 ⟨rfl,hE⟩); (have HE:=Lib.hid (Bd.from_ (fun k hk => (H0.out.old k (.inl hk)).1) hgl HW.out.2.2 hB hE)); (clear hE HW)))
 all_goals (go_end0; exact ⟨rfl,HE.out⟩)
theorem Rw {w:World} {B g:Nat} {Af Ac:Nat → Prop} {L:Lk} {q o:Value} (h:At w B Af Ac g L q o) (hok:L.Ok) (hB:B ≤ w.heap.size) (hkn:L.known = true) (DX:¬ L.phase = 2) :
  Calls Try.prog 73 #[.pointer (some ⟨g,0,none⟩)] w fun e w' => e = .returned (.tuple #[]) ∧ Bd w B Af Ac g (emit_ L (⟨1,L.token,L.AL,L.yours,0,0,0,0,0,0,[]⟩:BL)) q w':=by
 have hc2:w.cell? ⟨g,2,none⟩ = some (.int .u32 L.token):=(AA h.blk 2).trans rfl
 have hgl:g < w.heap.size:=AU h.blk
 have H0:=Lib.hid h
 have OK:=Lib.hid hok
 have Vx:=Lib.hid hkn
 have EO:=Lib.hid DX
 clear h hok hkn
 go_enter Try.func73,Try.ntmps73
 go_wp2_with (first | ((with_reducible refine gate_ (.store 27 (.tmp 2) (.tmp 7)) rfl ?_); (refine Ae rfl rfl 27 (.tmp 2) (.tmp 7) rfl w.heap.size _ rfl rfl 27 _ (heap_alloc_new w _) (by kernel_rfl) rfl (by kernel_rfl) ?_); (intro w1 hb1 Em); (have hbl:=Em.below ((Below.refl w.heap.size w).alloc (Nat.le_refl _) _) (Nat.le_refl _)); (have HW:=Lib.hid (show HB w g w.heap.size L q o L.token 0 0 0 w1 from ⟨(hbl.block g hgl).trans H0.out.blk,hb1,hbl⟩)); (have hc5:w1.cell? ⟨g,5,none⟩ = some (.bool true):=(AA HW.out.1 5).trans (by rw [← Vx.out]; rfl)); (clear hb1 Em hbl hc2)))
 have hSS:w1.drew.heap[g]? = some (.cells (row L q o) 131 (0,0)):=HW.out.1
 have ED:HB w g w.heap.size L q o L.token 0 0 0 w1.drew:=⟨HW.out.1,HW.out.2.1,Am HW.out.2.2⟩
 clear HW hc5
 refine BC (n:=12) (S:=fun w' => w'.heap[g]? = some (.cells (row L q o) 131 (0,0))) (ds:=[]) Zf (by kernel_rfl) rfl rfl (hSS) (fun hHeld => ?_)
 generalize w1.drew = w2 at ED hHeld ⊢
 have HW:=Lib.hid ED
 clear ED
 refine pu 0 12 Zg ?_
 refine pu 1 13 Zh ?_
 refine pu 2 14 Zi ?_
 refine tk 3 15 Zj hHeld ?_ (hf:=by intro w' s0; have hc3:w'.cell? ⟨g,3,none⟩ = some (.int .u32 L.AL):=(AA s0 3).trans rfl; clear s0; go_simp; with_reducible rfl)
 refine pu 4 16 bY ?_
 refine pu 5 17 bZ ?_
 refine pu 6 18 bf ?_
 refine tk 7 19 bg hHeld ?_ (hf:=by intro w' s0; have hc4:w'.cell? ⟨g,4,none⟩ = some (.int .u32 L.yours):=(AA s0 4).trans rfl; clear s0; go_simp; with_reducible rfl)
 refine pu 8 20 Zk ?_
 refine on 9 none Zl fun K hK => ?_
 have hz1:w2.cell? ⟨w.heap.size,2,none⟩ = some _:=(AA HW.out.2.1 2).trans rfl
 have hz2:=AB HW.out.2.1 2
 refine BN (fun wz => HB w g w.heap.size L q o L.token L.AL 0 0 wz) (by rfl) rfl ⟨_,by first | (go_simp; done) | (go_simp; rfl),(Below.heap_setCell _ ⟨w.heap.size,2,none⟩ _ g (by show g ≠ w.heap.size; omega)).trans HW.out.1,AQ HW.out.2.1 2 _ rfl,HW.out.2.2.setCell (p:=⟨w.heap.size,2,none⟩) (Nat.le_refl _) _⟩ (fun w3 hF => ?_)
 have Aq:=Lib.hid hF
 clear hF hz1 hz2 HW hHeld
 have HW:=Aq
 clear Aq
 refine hK.out _ _ HW.out.1 (fun hHeld => ?_)
 clear hK K
 refine pu 10 21 Zm ?_
 refine on 11 none Zn fun K hK => ?_
 have hz1:w3.cell? ⟨w.heap.size,3,none⟩ = some _:=(AA HW.out.2.1 3).trans rfl
 have hz2:=AB HW.out.2.1 3
 refine BN (fun wz => HB w g w.heap.size L q o L.token L.AL L.yours 0 wz) (by rfl) rfl ⟨_,by first | (go_simp; done) | (go_simp; rfl),(Below.heap_setCell _ ⟨w.heap.size,3,none⟩ _ g (by show g ≠ w.heap.size; omega)).trans HW.out.1,AQ HW.out.2.1 3 _ rfl,HW.out.2.2.setCell (p:=⟨w.heap.size,3,none⟩) (Nat.le_refl _) _⟩ (fun w4 hF => ?_)
 have Aq:=Lib.hid hF
 clear hF hz1 hz2 HW hHeld
 have HW:=Aq
 clear Aq
 refine hK.out _ _ HW.out.1 (fun hHeld => ?_)
 clear hK K
 refine BU (by kernel_rfl) ?_
 clear hHeld
 have hc1:w4.cell? ⟨g,1,none⟩ = some (.int .i64 L.phase):=(AA HW.out.1 1).trans rfl
 have DX:=EO.out
 go_wp2_with (first | ((with_reducible refine gate_ (.store 24 (.tmp 27) (.const (.int .u32 1))) rfl ?_); (refine AZ (fun wz => HB w g w.heap.size L q o L.token L.AL L.yours 1 wz) rfl rfl ⟨_,(by have hz1:World.cell? _ ⟨w.heap.size,4,none⟩ = some _:=(AA HW.out.2.1 4).trans rfl; have hz2:=AB HW.out.2.1 4; first | (go_simp; done) | (go_simp; rfl)),(Below.heap_setCell _ ⟨w.heap.size,4,none⟩ _ g (by show g ≠ w.heap.size; omega)).trans HW.out.1,AQ HW.out.2.1 4 _ rfl,HW.out.2.2.setCell (p:=⟨w.heap.size,4,none⟩) (Nat.le_refl _) _⟩ (fun w5 hF => ?_)); (have Aq:=Lib.hid hF); (clear hF HW hc1); (have HW:=Aq); (clear Aq)) | ((with_reducible refine AV (N:=29) rfl ?_); (refine I9 (fun v wz => v = .agg #[.int .i64 1,.int .u32 L.token,.int .u32 L.AL,.int .u32 L.yours,.int .u32 0,.int .u32 0,.int .u32 0,.int .u32 0,.complex .f64 0 0,.slice none 0 0] ∧ HB w g w.heap.size L q o L.token L.AL L.yours 0 wz) rfl ⟨.agg #[.int .i64 1,.int .u32 L.token,.int .u32 L.AL,.int .u32 L.yours,.int .u32 0,.int .u32 0,.int .u32 0,.int .u32 0,.complex .f64 0 0,.slice none 0 0],_,(by have DV:=Try.underlying27; have hd0:World.cell? _ ⟨w.heap.size,0,none⟩ = some (.int .i64 1):=(AA HW.out.2.1 0).trans rfl; have hd1:World.cell? _ ⟨w.heap.size,1,none⟩ = some (.int .u32 L.token):=(AA HW.out.2.1 1).trans rfl; have hd2:World.cell? _ ⟨w.heap.size,2,none⟩ = some (.int .u32 L.AL):=(AA HW.out.2.1 2).trans rfl; have hd3:World.cell? _ ⟨w.heap.size,3,none⟩ = some (.int .u32 L.yours):=(AA HW.out.2.1 3).trans rfl; have hd4:World.cell? _ ⟨w.heap.size,4,none⟩ = some (.int .u32 0):=(AA HW.out.2.1 4).trans rfl; have hd5:World.cell? _ ⟨w.heap.size,5,none⟩ = some (.int .u32 0):=(AA HW.out.2.1 5).trans rfl; have hd6:World.cell? _ ⟨w.heap.size,6,none⟩ = some (.int .u32 0):=(AA HW.out.2.1 6).trans rfl; have hd7:World.cell? _ ⟨w.heap.size,7,none⟩ = some (.int .u32 0):=(AA HW.out.2.1 7).trans rfl; have hd8:World.cell? _ ⟨w.heap.size,8,none⟩ = some (.complex .f64 0 0):=(AA HW.out.2.1 8).trans rfl; have hd9:World.cell? _ ⟨w.heap.size,9,none⟩ = some (.slice none 0 0):=(AA HW.out.2.1 9).trans rfl; first | (go_simp; done) | (go_simp; rfl)),rfl,HW.out⟩ (fun v9 w8 hF => ?_)); (obtain ⟨rfl,hF2⟩:=hF); (have Aq:=Lib.hid hF2); (clear hF2 HW); (have HW:=Aq); (clear Aq)) | (go_at_call 80; (refine (Ef (⟨1,L.token,L.AL,L.yours,0,0,0,0,0,0,[]⟩:BL) (.slice none 0 0) (H0.out.below HW.out.2.2) OK.out (Nat.le_trans hB HW.out.2.2.size) (C9:=fun _ => False) (F6.2 ⟨_,rfl,Kd.CZ _ _ _ _ _⟩) (fun _ hk => hk.elim)).mono ?_); (rintro e w9 ⟨rfl,hE⟩); (have HE:=Lib.hid (Bd.from_ (fun k hk => (H0.out.old k (.inl hk)).1) hgl HW.out.2.2 hB hE)); (clear hE HW)))
 all_goals (go_end0; exact ⟨rfl,HE.out⟩)
theorem Rx {w:World} {B g:Nat} {Af Ac:Nat → Prop} {L:Lk} {q o:Value} (h:At w B Af Ac g L q o) (hok:L.Ok) (hB:B ≤ w.heap.size) (hkn:L.known = true) (DX:L.phase = 2) :
  Calls Try.prog 73 #[.pointer (some ⟨g,0,none⟩)] w fun e w' => e = .returned (.tuple #[]) ∧ Bd w B Af Ac g (emit_ L (⟨1,L.token,L.AL,L.yours,1,0,0,0,0,0,[]⟩:BL)) q w':=by
 have hc2:w.cell? ⟨g,2,none⟩ = some (.int .u32 L.token):=(AA h.blk 2).trans rfl
 have hgl:g < w.heap.size:=AU h.blk
 have H0:=Lib.hid h
 have OK:=Lib.hid hok
 have Vx:=Lib.hid hkn
 have EO:=Lib.hid DX
 clear h hok hkn
 go_enter Try.func73,Try.ntmps73
 go_wp2_with (first | ((with_reducible refine gate_ (.store 27 (.tmp 2) (.tmp 7)) rfl ?_); (refine Ae rfl rfl 27 (.tmp 2) (.tmp 7) rfl w.heap.size _ rfl rfl 27 _ (heap_alloc_new w _) (by kernel_rfl) rfl (by kernel_rfl) ?_); (intro w1 hb1 Em); (have hbl:=Em.below ((Below.refl w.heap.size w).alloc (Nat.le_refl _) _) (Nat.le_refl _)); (have HW:=Lib.hid (show HB w g w.heap.size L q o L.token 0 0 0 w1 from ⟨(hbl.block g hgl).trans H0.out.blk,hb1,hbl⟩)); (have hc5:w1.cell? ⟨g,5,none⟩ = some (.bool true):=(AA HW.out.1 5).trans (by rw [← Vx.out]; rfl)); (clear hb1 Em hbl hc2)))
 have hSS:w1.drew.heap[g]? = some (.cells (row L q o) 131 (0,0)):=HW.out.1
 have ED:HB w g w.heap.size L q o L.token 0 0 0 w1.drew:=⟨HW.out.1,HW.out.2.1,Am HW.out.2.2⟩
 clear HW hc5
 refine BC (n:=12) (S:=fun w' => w'.heap[g]? = some (.cells (row L q o) 131 (0,0))) (ds:=[]) Zf (by kernel_rfl) rfl rfl (hSS) (fun hHeld => ?_)
 generalize w1.drew = w2 at ED hHeld ⊢
 have HW:=Lib.hid ED
 clear ED
 refine pu 0 12 Zg ?_
 refine pu 1 13 Zh ?_
 refine pu 2 14 Zi ?_
 refine tk 3 15 Zj hHeld ?_ (hf:=by intro w' s0; have hc3:w'.cell? ⟨g,3,none⟩ = some (.int .u32 L.AL):=(AA s0 3).trans rfl; clear s0; go_simp; with_reducible rfl)
 refine pu 4 16 bY ?_
 refine pu 5 17 bZ ?_
 refine pu 6 18 bf ?_
 refine tk 7 19 bg hHeld ?_ (hf:=by intro w' s0; have hc4:w'.cell? ⟨g,4,none⟩ = some (.int .u32 L.yours):=(AA s0 4).trans rfl; clear s0; go_simp; with_reducible rfl)
 refine pu 8 20 Zk ?_
 refine on 9 none Zl fun K hK => ?_
 have hz1:w2.cell? ⟨w.heap.size,2,none⟩ = some _:=(AA HW.out.2.1 2).trans rfl
 have hz2:=AB HW.out.2.1 2
 refine BN (fun wz => HB w g w.heap.size L q o L.token L.AL 0 0 wz) (by rfl) rfl ⟨_,by first | (go_simp; done) | (go_simp; rfl),(Below.heap_setCell _ ⟨w.heap.size,2,none⟩ _ g (by show g ≠ w.heap.size; omega)).trans HW.out.1,AQ HW.out.2.1 2 _ rfl,HW.out.2.2.setCell (p:=⟨w.heap.size,2,none⟩) (Nat.le_refl _) _⟩ (fun w3 hF => ?_)
 have Aq:=Lib.hid hF
 clear hF hz1 hz2 HW hHeld
 have HW:=Aq
 clear Aq
 refine hK.out _ _ HW.out.1 (fun hHeld => ?_)
 clear hK K
 refine pu 10 21 Zm ?_
 refine on 11 none Zn fun K hK => ?_
 have hz1:w3.cell? ⟨w.heap.size,3,none⟩ = some _:=(AA HW.out.2.1 3).trans rfl
 have hz2:=AB HW.out.2.1 3
 refine BN (fun wz => HB w g w.heap.size L q o L.token L.AL L.yours 0 wz) (by rfl) rfl ⟨_,by first | (go_simp; done) | (go_simp; rfl),(Below.heap_setCell _ ⟨w.heap.size,3,none⟩ _ g (by show g ≠ w.heap.size; omega)).trans HW.out.1,AQ HW.out.2.1 3 _ rfl,HW.out.2.2.setCell (p:=⟨w.heap.size,3,none⟩) (Nat.le_refl _) _⟩ (fun w4 hF => ?_)
 have Aq:=Lib.hid hF
 clear hF hz1 hz2 HW hHeld
 have HW:=Aq
 clear Aq
 refine hK.out _ _ HW.out.1 (fun hHeld => ?_)
 clear hK K
 refine BU (by kernel_rfl) ?_
 clear hHeld
 have hc1:w4.cell? ⟨g,1,none⟩ = some (.int .i64 L.phase):=(AA HW.out.1 1).trans rfl
 have DX:=EO.out
 go_wp2_with (first | ((with_reducible refine gate_ (.store 24 (.tmp 27) (.const (.int .u32 1))) rfl ?_); (refine AZ (fun wz => HB w g w.heap.size L q o L.token L.AL L.yours 1 wz) rfl rfl ⟨_,(by have hz1:World.cell? _ ⟨w.heap.size,4,none⟩ = some _:=(AA HW.out.2.1 4).trans rfl; have hz2:=AB HW.out.2.1 4; first | (go_simp; done) | (go_simp; rfl)),(Below.heap_setCell _ ⟨w.heap.size,4,none⟩ _ g (by show g ≠ w.heap.size; omega)).trans HW.out.1,AQ HW.out.2.1 4 _ rfl,HW.out.2.2.setCell (p:=⟨w.heap.size,4,none⟩) (Nat.le_refl _) _⟩ (fun w5 hF => ?_)); (have Aq:=Lib.hid hF); (clear hF HW hc1); (have HW:=Aq); (clear Aq)) | ((with_reducible refine AV (N:=29) rfl ?_); (refine I9 (fun v wz => v = .agg #[.int .i64 1,.int .u32 L.token,.int .u32 L.AL,.int .u32 L.yours,.int .u32 1,.int .u32 0,.int .u32 0,.int .u32 0,.complex .f64 0 0,.slice none 0 0] ∧ HB w g w.heap.size L q o L.token L.AL L.yours 1 wz) rfl ⟨.agg #[.int .i64 1,.int .u32 L.token,.int .u32 L.AL,.int .u32 L.yours,.int .u32 1,.int .u32 0,.int .u32 0,.int .u32 0,.complex .f64 0 0,.slice none 0 0],_,(by have DV:=Try.underlying27; have hd0:World.cell? _ ⟨w.heap.size,0,none⟩ = some (.int .i64 1):=(AA HW.out.2.1 0).trans rfl; have hd1:World.cell? _ ⟨w.heap.size,1,none⟩ = some (.int .u32 L.token):=(AA HW.out.2.1 1).trans rfl; have hd2:World.cell? _ ⟨w.heap.size,2,none⟩ = some (.int .u32 L.AL):=(AA HW.out.2.1 2).trans rfl; have hd3:World.cell? _ ⟨w.heap.size,3,none⟩ = some (.int .u32 L.yours):=(AA HW.out.2.1 3).trans rfl; have hd4:World.cell? _ ⟨w.heap.size,4,none⟩ = some (.int .u32 1):=(AA HW.out.2.1 4).trans rfl; have hd5:World.cell? _ ⟨w.heap.size,5,none⟩ = some (.int .u32 0):=(AA HW.out.2.1 5).trans rfl; have hd6:World.cell? _ ⟨w.heap.size,6,none⟩ = some (.int .u32 0):=(AA HW.out.2.1 6).trans rfl; have hd7:World.cell? _ ⟨w.heap.size,7,none⟩ = some (.int .u32 0):=(AA HW.out.2.1 7).trans rfl; have hd8:World.cell? _ ⟨w.heap.size,8,none⟩ = some (.complex .f64 0 0):=(AA HW.out.2.1 8).trans rfl; have hd9:World.cell? _ ⟨w.heap.size,9,none⟩ = some (.slice none 0 0):=(AA HW.out.2.1 9).trans rfl; first | (go_simp; done) | (go_simp; rfl)),rfl,HW.out⟩ (fun v9 w8 hF => ?_)); (obtain ⟨rfl,hF2⟩:=hF); (have Aq:=Lib.hid hF2); (clear hF2 HW); (have HW:=Aq); (clear Aq)) | (go_at_call 80; (refine (Ef (⟨1,L.token,L.AL,L.yours,1,0,0,0,0,0,[]⟩:BL) (.slice none 0 0) (H0.out.below HW.out.2.2) OK.out (Nat.le_trans hB HW.out.2.2.size) (C9:=fun _ => False) (F6.2 ⟨_,rfl,Kd.CZ _ _ _ _ _⟩) (fun _ hk => hk.elim)).mono ?_); (rintro e w9 ⟨rfl,hE⟩); (have HE:=Lib.hid (Bd.from_ (fun k hk => (H0.out.old k (.inl hk)).1) hgl HW.out.2.2 hB hE)); (clear hE HW)))
 all_goals (go_end0; exact ⟨rfl,HE.out⟩)
theorem GL {w:World} {B g:Nat} {Af Ac:Nat → Prop} {L:Lk} {q o:Value} (h:At w B Af Ac g L q o) (hok:L.Ok) (hB:B ≤ w.heap.size) :
  Calls Try.prog 73 #[.pointer (some ⟨g,0,none⟩)] w fun e w' => e = .returned (.tuple #[]) ∧ Bd w B Af Ac g (emit_ L (Cf L)) q w':=by
 by_cases hp:L.phase = 2 <;> cases hk:L.known
 ·have:=Ru h hok hB hk hp
  simpa [Cf,hk,hp] using this
 ·have:=Rx h hok hB hk hp
  simpa [Cf,hk,hp] using this
 ·have:=Rt h hok hB hk hp
  simpa [Cf,hk,hp] using this
 ·have:=Rw h hok hB hk hp
  simpa [Cf,hk,hp] using this
def ET (L:Lk):Lk:={ L with phase:=0,queue:=[],sent:=0,known:=false }
theorem LG {L:Lk} (h:L.Ok):(ET L).Ok:=by
 have h1:=h.own; have h2:=h.token; have h3:=h.AL; have h4:=h.yours; have h5:=h.out; have h6:=h.base; have h7:=h.expected; have h8:=h.idle
 constructor <;> simp [ET] <;> omega
theorem O7 {w:World} {B g:Nat} {Af Ac:Nat → Prop} {L:Lk} {q o:Value} (h:At w B Af Ac g L q o):Calls Try.prog 78 #[.pointer (some ⟨g,0,none⟩)] w fun e w' => e = .returned (.bool (decide (L.phase = 2))) ∧ At w' B (fun _ => False) Ac g (ET L) (.slice none 0 0) o ∧ Go.Proofs.Ytnkkgofpifhoeaa.Steps.At g w w':=by
 have hc1:w.cell? ⟨g,1,none⟩ = some (.int .i64 L.phase):=(AA h.blk 1).trans rfl
 have K0:=Lib.hid (⟨h,Steps.At.refl g w⟩:At w B Af Ac g L q o ∧ Go.Proofs.Ytnkkgofpifhoeaa.Steps.At g w w)
 clear h
 go_enter Try.func78,Try.ntmps78
 go_wp2_with (first | ((with_reducible refine gate_ (.store 3 (.tmp 13) (.const (.int .i64 0))) rfl ?_); (refine AZ (fun wz => At wz B Af Ac g { L with phase:=0 } q o ∧ Go.Proofs.Ytnkkgofpifhoeaa.Steps.At g w wz) rfl rfl ⟨_,(by have hz1:World.cell? _ ⟨g,1,none⟩ = some _:=(AA K0.out.1.blk 1).trans rfl; have hz2:=AB K0.out.1.blk 1; first | (go_simp; done) | (go_simp; rfl)),K0.out.1.Hw 1 _ rfl rfl rfl,Steps.At.set K0.out.2 _ _⟩ (fun CQ hF => ?_)); (have K1:=Lib.hid hF); (clear hF)) | ((with_reducible refine gate_ (.store 45 (.tmp 16) (.const (.slice none 0 0))) rfl ?_); (refine AZ (fun wz => At wz B (fun _ => False) Ac g { L with phase:=0,queue:=[] } (.slice none 0 0) o ∧ Go.Proofs.Ytnkkgofpifhoeaa.Steps.At g w wz) rfl rfl ⟨_,(by have hz1:World.cell? _ ⟨g,6,none⟩ = some _:=(AA K1.out.1.blk 6).trans rfl; have hz2:=AB K1.out.1.blk 6; first | (go_simp; done) | (go_simp; rfl)),K1.out.1.noq rfl rfl rfl,Steps.At.set K1.out.2 _ _⟩ (fun BM hF => ?_)); (have K2:=Lib.hid hF); (clear hF)) | ((with_reducible refine gate_ (.store 3 (.tmp 19) (.const (.int .i64 0))) rfl ?_); (refine AZ (fun wz => At wz B (fun _ => False) Ac g { L with phase:=0,queue:=[],sent:=0 } (.slice none 0 0) o ∧ Go.Proofs.Ytnkkgofpifhoeaa.Steps.At g w wz) rfl rfl ⟨_,(by have hz1:World.cell? _ ⟨g,7,none⟩ = some _:=(AA K2.out.1.blk 7).trans rfl; have hz2:=AB K2.out.1.blk 7; first | (go_simp; done) | (go_simp; rfl)),K2.out.1.Hw 7 _ rfl rfl rfl,Steps.At.set K2.out.2 _ _⟩ (fun CE hF => ?_)); (have K3:=Lib.hid hF); (clear hF)) | ((with_reducible refine gate_ (.store 4 (.tmp 22) (.const (.bool false))) rfl ?_); (refine AZ (fun wz => At wz B (fun _ => False) Ac g { L with phase:=0,queue:=[],sent:=0,known:=false } (.slice none 0 0) o ∧ Go.Proofs.Ytnkkgofpifhoeaa.Steps.At g w wz) rfl rfl ⟨_,(by have hz1:World.cell? _ ⟨g,5,none⟩ = some _:=(AA K3.out.1.blk 5).trans rfl; have hz2:=AB K3.out.1.blk 5; first | (go_simp; done) | (go_simp; rfl)),K3.out.1.Hw 5 _ rfl rfl rfl,Steps.At.set K3.out.2 _ _⟩ (fun DW hF => ?_)); (have K4:=Lib.hid hF); (clear hF)))
 all_goals (go_ret; exact ⟨rfl,K4.out.1,K4.out.2⟩)
theorem FX {w w1:World} {g:Nat} (h:Go.Proofs.Ytnkkgofpifhoeaa.Steps.At g w w1):Kept w w1 (fun k => k = g):=⟨Nat.le_of_eq h.size.symm,fun i _ hn => h.block i hn⟩
def Hy (w:World) (B:Nat) (Af Ac:Nat → Prop) (g:Nat) (L:Lk) (w':World):Prop :=
 ∃ GK q,(∀ k,GK k → Af k) ∧ ∃ o,At w' B GK (fun k => Ac k ∨ w.heap.size ≤ k ∧ k < w'.heap.size) g L q o ∧ Kept w w' (fun k => Ac k ∨ k = g) ∧ Below B w w'
theorem Hy.same {w:World} {B g:Nat} {Af Ac:Nat → Prop} {L:Lk} {q o:Value} (h:At w B Af Ac g L q o):Hy w B Af Ac g L w :=
 ⟨Af,q,fun _ h => h,o,⟨h.blk,h.queue,Kd.Az h.out (fun _ hk => .inl hk),h.low,fun k hk ho => ho.elim (h.apart k hk) (fun hn => by omega),fun k hk => (hk.elim (fun x => h.old k (.inl x)) (fun x => x.elim (fun y => h.old k (.inr y)) (fun hn => by omega)))⟩,Kept.refl _ _,Below.refl _ _⟩
theorem Bd.drops {w w1 w':World} {B g:Nat} {Af Ac:Nat → Prop} {L:Lk} {q:Value} (hat:Go.Proofs.Ytnkkgofpifhoeaa.Steps.At g w w1) (hB:B ≤ g) (h:Bd w1 B (fun _ => False) Ac g L q w'):Hy w B Af Ac g L w':=by
 obtain ⟨o,h1,h2,h3⟩:=h
 rw [hat.size] at h1
 exact ⟨fun _ => False,q,fun _ hf => hf.elim,o,h1,((FX hat).mono (fun k hk => .inr hk)).Dp h2 (fun k hk => .inl hk),(hat.below (Below.refl _ _) hB).trans h3⟩
def EE (L:Lk):Lk:=if L.phase = 0 ∧ L.token ≠ 4294967295 then emit_ (Dj L) (Cf (Dj L)) else L
def Ij (L:Lk):Int:=if L.phase = 0 then (if L.token = 4294967295 then 111 else 0) else 110
theorem Ul {w:World} {B g:Nat} {Af Ac:Nat → Prop} {L:Lk} {q o:Value} (h:At w B Af Ac g L q o) (hok:L.Ok) (hB:B ≤ w.heap.size):Calls Try.prog 27 #[.pointer (some ⟨g,0,none⟩)] w fun e w' => e = .returned (.int .i64 (Ij L)) ∧ Hy w B Af Ac g (EE L) w':=by
 have hc1:w.cell? ⟨g,1,none⟩ = some (.int .i64 L.phase):=(AA h.blk 1).trans rfl
 have hc2:w.cell? ⟨g,2,none⟩ = some (.int .u32 L.token):=(AA h.blk 2).trans rfl
 have ht:=hok.token
 have H:=Lib.hid h
 have OK:=Lib.hid hok
 clear h hok
 by_cases hp:L.phase = 0
 ·by_cases htk:L.token = 4294967295
  ·have hE:Ij L = 111:=by simp [Ij,hp,htk]
   have hL:EE L = L:=by simp [EE,hp,htk]
   rw [hE,hL]
   clear hE hL
   go_enter Try.func27,Try.ntmps27
   go_wp2
   all_goals (go_ret; exact ⟨rfl,Hy.same H.out⟩)
  ·have hE:Ij L = 0:=by simp [Ij,hp,htk]
   have hL:EE L = emit_ (Dj L) (Cf (Dj L)):=by simp [EE,hp,htk]
   rw [hE,hL]
   clear hE hL
   go_enter Try.func27,Try.ntmps27
   go_wp2_with (first | (go_at_call 72; (refine (MB H.out OK.out (by omega)).mono ?_); (rintro e w1 ⟨rfl,h1,hat⟩); (have H1:=Lib.hid h1); (have HAT:=Lib.hid hat); (clear h1 hat)) | (go_at_call 73; (refine (GL H1.out (JS OK.out (by omega)) (by have:=HAT.out.size; omega)).mono ?_); (rintro e w2 ⟨rfl,hE⟩); (have HE:=Lib.hid (Bd.drops (Af:=Af) HAT.out H.out.low hE)); (clear hE)))
   all_goals (go_ret; exact ⟨rfl,HE.out⟩)
 ·have hE:Ij L = 110:=by simp [Ij,hp]
  have hL:EE L = L:=by simp [EE,hp]
  rw [hE,hL]
  clear hE hL
  go_enter Try.func27,Try.ntmps27
  go_wp2
  all_goals (go_ret; exact ⟨rfl,Hy.same H.out⟩)
end Go.Proofs.Ytnkkgofpifhoeaa.Lk
end
