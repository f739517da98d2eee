/- What the laws of a pair are proved with: links and pairs in memory, what their methods do, what a pair keeps to (part 12). -/
import Derived.Test.YtnkkgofpifhoeaaPG11
set_option linter.unusedSimpArgs false
set_option linter.unusedVariables false
set_option maxRecDepth 100000
set_option maxHeartbeats 16000000
section
namespace Go.Proofs.Ytnkkgofpifhoeaa.Lk
open Go.RowKit Go.Proofs.Ytnkkgofpifhoeaa.Base Go.Proofs.Ytnkkgofpifhoeaa.Steps Go.Proofs.YtnkkgofpifhoeaaW.PrintWords Go.Proofs.YtnkkgofpifhoeaaW.PrintLast
def emit_ (L:Lk) (p:BJ):Lk:=if L.out.length < 1024 then { L with out:=L.out ++ [p] } else L
theorem Lu {L:Lk} (h:L.Ok) (p:BJ):(emit_ L p).Ok:=by
 unfold emit_
 split
 ·exact ⟨h.own,h.phase,h.token,h.AL,h.yours,h.queue,h.rows,h.sent,h.base,h.expected,h.idle,by simp; omega⟩
 ·exact h
def BL (w:World) (B:Nat) (Af Ac:Nat → Prop) (g:Nat) (L:Lk) (q:Value) (w':World):Prop :=
 ∃ o,At w' B Af (fun k => Ac k ∨ w.heap.size ≤ k ∧ k < w'.heap.size) g L q o ∧ Kept w w' (fun k => Ac k ∨ k = g) ∧ Below B w w'
theorem X8:(Try.prog.info? 27).map (fun i => (i.zero,i.size,i.bytes)) = some (some (.agg #[.int .i64 0,.int .u32 0,.int .u32 0,.int .u32 0,.int .u32 0,.int .u32 0,.int .u32 0,.int .u32 0,.complex .f64 0 0,.slice none 0 0]),10,80):=by kernel_rfl
theorem Tv {w:World} {B:Nat} {DI ok:Nat → Prop} {p:BJ} {cs:List Value} {o:Value} {ps:List BJ} (hM:pkt.M w B DI p cs) (ho:pkt.R 27 w B ok o ps):pkt.M w B (fun k => DI k ∧ some k ≠ o.ownBlock) p cs:=by
 refine pkt.CX (fun k hk => ?_) (pkt.DL hM)
 obtain ⟨h1,_,_,t,ht,c,hc⟩:=hk
 refine ⟨h1,fun he => ?_⟩
 obtain ⟨_,inner,ho2,_⟩:=ho
 obtain ⟨c2,hc2⟩:=G7 ho2 k he.symm
 rw [hc] at hc2
 injection hc2 with hc2
 injection hc2 with _ hc2 _
 subst hc2
 rw [Zl] at ht
 exact absurd ht (by decide)
theorem At.put' {w:World} {B g:Nat} {Gv Js:Nat → Prop} {L':Lk} {q' o':Value} {cs:Array Value} (hb:w.heap[g]? = some (.cells cs 131 (0,0))) (i:Nat) (u:Value) (e:cs.setIfInBounds i u = row L' q' o')
  (hq:bytes.Q 22 w B Gv q' L'.queue) (hout:pkt.R 27 w B Js o' L'.out) (low:B ≤ g) (hap:∀ k,Gv k → ¬ Js k) (hold:∀ k,Gv k ∨ Js k → k < w.heap.size ∧ k ≠ g):At (w.setCell ⟨g,i,none⟩ u) B Gv Js g L' q' o':=by
 have hk:Kept w (w.setCell ⟨g,i,none⟩ u) (fun k => k = g):=Kept.setCell (S:=fun k => k = g) (Kept.refl w _) (p:=⟨g,i,none⟩) (.inl rfl) u
 exact ⟨AQ hb i u e,Kd.Le hq hk (fun k ho => (hold k (.inl ho)).2),Kd.BI hout hk (fun k ho => (hold k (.inr ho)).2),low,hap,fun k hk' => ⟨Nat.lt_of_lt_of_le (hold k hk').1 hk.1,(hold k hk').2⟩⟩
theorem Ec {w:World} {B g:Nat} {Af Ac DI:Nat → Prop} {L:Lk} {q o:Value} (p:BJ) (b:Value) (h:At w B Af Ac g L q o) (hok:L.Ok) (hB:B ≤ w.heap.size) (hM:pkt.M w B DI p (cells p b)) (GN:∀ k,DI k → Ac k) :
  Calls Try.prog 80 #[.pointer (some ⟨g,0,none⟩),.agg #[.int .i64 p.kind,.int .u32 p.mine,.int .u32 p.AL,.int .u32 p.yours,.int .u32 p.seq,.int .u32 p.AX,.int .u32 p.stamp,.int .u32 p.echo,.complex .f64 p.zr p.zi,b]] w fun e w' => e = .returned (.tuple #[]) ∧ BL w B Af Ac g (emit_ L p) q w':=by
 obtain ⟨A,c,ho⟩:=Kd.Am h.out
 subst ho
 have hol:=hok.out
 have hb0:Below w.heap.size w (w.alloc (.cells #[.int .i64 p.kind,.int .u32 p.mine,.int .u32 p.AL,.int .u32 p.yours,.int .u32 p.seq,.int .u32 p.AX,.int .u32 p.stamp,.int .u32 p.echo,.complex .f64 p.zr p.zi,b] 27)):=(Below.refl _ _).alloc (Nat.le_refl _) _
 have H1:=Lib.hid (h.below hb0)
 have H0:=Lib.hid h
 have HM:=Lib.hid (Tv hM h.out)
 have HP:=Lib.hid GN
 have X9:(w.alloc (.cells #[.int .i64 p.kind,.int .u32 p.mine,.int .u32 p.AL,.int .u32 p.yours,.int .u32 p.seq,.int .u32 p.AX,.int .u32 p.stamp,.int .u32 p.echo,.complex .f64 p.zr p.zi,b] 27)).cell? ⟨g,11,none⟩ = some (.slice A L.out.length c):=(AA H1.out.blk 11).trans rfl
 have hcb:=heap_alloc_new w (.cells #[.int .i64 p.kind,.int .u32 p.mine,.int .u32 p.AL,.int .u32 p.yours,.int .u32 p.seq,.int .u32 p.AX,.int .u32 p.stamp,.int .u32 p.echo,.complex .f64 p.zr p.zi,b] 27)
 have HB0:=Lib.hid hb0
 have XJ:=Lib.hid hcb
 clear h hb0 hM GN hok hcb
 go_enter Try.func80,Try.ntmps80
 go_wp2_with fail
 rotate_left
 ·go_end0
  have hL:emit_ L p = L:=by unfold emit_; rw [if_neg (by omega)]
  rw [hL]
  refine ⟨rfl,.slice A L.out.length c,⟨H1.out.blk,H1.out.queue,Kd.Az H1.out.out (fun _ hk => .inl hk),H1.out.low,fun k hk ho => ho.elim (H1.out.apart k hk) (fun hn => by have:=(H0.out.old k (.inl hk)).1; omega),fun k hk => ?_⟩,Kept.of_below HB0.out _,HB0.out.mono hB⟩
  have hgl:g < w.heap.size:=AU H0.out.blk
  rcases hk with hk | hk | hk
  ·exact H1.out.old k (.inl hk)
  ·exact H1.out.old k (.inr hk)
  ·exact ⟨hk.2,by omega⟩
 have hL:emit_ L p = { L with out:=L.out ++ [p] }:=by unfold emit_; rw [if_pos (by omega)]
 have hbd:Below w.heap.size w (w.alloc (.cells #[.int .i64 p.kind,.int .u32 p.mine,.int .u32 p.AL,.int .u32 p.yours,.int .u32 p.seq,.int .u32 p.AX,.int .u32 p.stamp,.int .u32 p.echo,.complex .f64 p.zr p.zi,b] 27)).drew:=Aj HB0.out
 have hSS:(w.alloc (.cells #[.int .i64 p.kind,.int .u32 p.mine,.int .u32 p.AL,.int .u32 p.yours,.int .u32 p.seq,.int .u32 p.AX,.int .u32 p.stamp,.int .u32 p.echo,.complex .f64 p.zr p.zi,b] 27)).drew.heap[g]? = some (.cells (row L q (.slice A L.out.length c)) 131 (0,0)) ∧ (w.alloc (.cells #[.int .i64 p.kind,.int .u32 p.mine,.int .u32 p.AL,.int .u32 p.yours,.int .u32 p.seq,.int .u32 p.AX,.int .u32 p.stamp,.int .u32 p.echo,.complex .f64 p.zr p.zi,b] 27)).drew.heap[w.heap.size]? = some (.cells #[.int .i64 p.kind,.int .u32 p.mine,.int .u32 p.AL,.int .u32 p.yours,.int .u32 p.seq,.int .u32 p.AX,.int .u32 p.stamp,.int .u32 p.echo,.complex .f64 p.zr p.zi,b] 27 (0,0)):=⟨H1.out.blk,XJ.out⟩
 have hsz0:(w.alloc (.cells #[.int .i64 p.kind,.int .u32 p.mine,.int .u32 p.AL,.int .u32 p.yours,.int .u32 p.seq,.int .u32 p.AX,.int .u32 p.stamp,.int .u32 p.echo,.complex .f64 p.zr p.zi,b] 27)).drew.heap.size = w.heap.size + 1:=by simp [World.drew]
 clear H1 HB0 XJ X9
 refine Aw (n:=11) (S:=fun w' => w'.heap[g]? = some (.cells (row L q (.slice A L.out.length c)) 131 (0,0)) ∧ w'.heap[w.heap.size]? = some (.cells #[.int .i64 p.kind,.int .u32 p.mine,.int .u32 p.AL,.int .u32 p.yours,.int .u32 p.seq,.int .u32 p.AX,.int .u32 p.stamp,.int .u32 p.echo,.complex .f64 p.zr p.zi,b] 27 (0,0))) (ds:=[10]) xC (by kernel_rfl) rfl rfl (hSS) (fun hHeld => ?_)
 generalize (w.alloc (.cells #[.int .i64 p.kind,.int .u32 p.mine,.int .u32 p.AL,.int .u32 p.yours,.int .u32 p.seq,.int .u32 p.AX,.int .u32 p.stamp,.int .u32 p.echo,.complex .f64 p.zr p.zi,b] 27)).drew = w2 at hbd hsz0 hHeld ⊢
 have JU:=Lib.hid hbd
 have V4:=Lib.hid hsz0
 clear hbd hsz0
 refine pu 0 10 xG ?_
 refine pu 1 11 xH ?_
 refine pu 2 12 xI ?_
 refine pu 3 13 xJ ?_
 refine tk 4 14 xK hHeld ?_ (hf:=by intro w' s0; have X9:w'.cell? ⟨g,11,none⟩ = some (.slice A L.out.length c):=(AA s0.1 11).trans rfl; clear s0; go_simp; with_reducible rfl)
 refine tk 5 15 xM hHeld ?_ (hf:=by intro w' s0; have DZ:=Try.underlying27; have hc0:w'.cell? ⟨w.heap.size,0,none⟩ = some (.int .i64 p.kind):=(AA s0.2 0).trans rfl; have hc1:w'.cell? ⟨w.heap.size,1,none⟩ = some (.int .u32 p.mine):=(AA s0.2 1).trans rfl; have hc2:w'.cell? ⟨w.heap.size,2,none⟩ = some (.int .u32 p.AL):=(AA s0.2 2).trans rfl; have hc3:w'.cell? ⟨w.heap.size,3,none⟩ = some (.int .u32 p.yours):=(AA s0.2 3).trans rfl; have hc4:w'.cell? ⟨w.heap.size,4,none⟩ = some (.int .u32 p.seq):=(AA s0.2 4).trans rfl; have hc5:w'.cell? ⟨w.heap.size,5,none⟩ = some (.int .u32 p.AX):=(AA s0.2 5).trans rfl; have hc6:w'.cell? ⟨w.heap.size,6,none⟩ = some (.int .u32 p.stamp):=(AA s0.2 6).trans rfl; have Ih:w'.cell? ⟨w.heap.size,7,none⟩ = some (.int .u32 p.echo):=(AA s0.2 7).trans rfl; have hc8:w'.cell? ⟨w.heap.size,8,none⟩ = some (.complex .f64 p.zr p.zi):=(AA s0.2 8).trans rfl; have Hu:w'.cell? ⟨w.heap.size,9,none⟩ = some (b):=(AA s0.2 9).trans rfl; clear s0; go_simp; try rfl)
 refine on 6 (some 16) xN fun K hK => ?_
 refine Gt (v:=.slice (some ⟨w2.heap.size,0,none⟩) 1 1) (by rfl) rfl (w1:=w2.alloc (.cells #[.int .i64 p.kind,.int .u32 p.mine,.int .u32 p.AL,.int .u32 p.yours,.int .u32 p.seq,.int .u32 p.AX,.int .u32 p.stamp,.int .u32 p.echo,.complex .f64 p.zr p.zi,b] 27)) ?_ ?_
 ·first | (go_simp; done) | (go_simp; rfl)
 have hb2:=(Below.refl w2.heap.size w2).alloc (Nat.le_refl _) (.cells #[.int .i64 p.kind,.int .u32 p.mine,.int .u32 p.AL,.int .u32 p.yours,.int .u32 p.seq,.int .u32 p.AX,.int .u32 p.stamp,.int .u32 p.echo,.complex .f64 p.zr p.zi,b] 27)
 have HS2:=Lib.hid hHeld
 refine hK.out _ _ ⟨(hb2.block g (AU hHeld.1)).trans hHeld.1,(hb2.block w.heap.size (AU hHeld.2)).trans hHeld.2⟩ (fun hHeld => ?_)
 clear hK K
 refine nm 16 ?_
 refine on 7 (some 17) xO fun K hK => ?_
 have hQ2:=H0.out.below JU.out
 have hM2:=Kd.Xp HM.out (Kept.of_below JU.out (fun _ => False)) (fun _ _ hf => hf)
 refine Kd.KO pkt (w0:=w) B (by rfl) (.tmp 14) (.tmp 16) 53 27 (.agg #[.int .i64 0,.int .u32 0,.int .u32 0,.int .u32 0,.int .u32 0,.int .u32 0,.int .u32 0,.int .u32 0,.complex .f64 0 0,.slice none 0 0]) 80 rfl Try.underlying53 X8 rfl (by decide) (by decide) _ _ p (cells p b) (fun k => Ac k ∨ w.heap.size ≤ k) (fun k => DI k ∧ some k ≠ (Value.slice A L.out.length c).ownBlock) rfl rfl hM2 (fun k hk => ⟨.inl (HP.out k hk.1),hk.2⟩) (fun k hk => .inr (by have:=V4.out; omega)) (Kd.Az hQ2.out (fun _ hk => .inl hk)) (JU.out.mono hB) (by have:=V4.out; omega) (by omega) ?_
 intro o1 w3 hR hbl hg _
 obtain ⟨A1,c1,ho1⟩:=Kd.Am hR
 generalize (L.out ++ [p]).length = n1 at ho1
 subst ho1
 have hown:∀ k,(Value.slice A L.out.length c).ownBlock = some k → Ac k:=H0.out.out.1
 have hK3:Kept w w3 Ac:=Kept.Fz hg (Kept.of_below JU.out Ac) (fun k hk => .inl (hown k hk))
 have jq:w3.heap[g]? = some (.cells (row L q (.slice A L.out.length c)) 131 (0,0)):=Ai H0.out.blk hK3 (fun ho => (H0.out.old g (.inr ho)).2 rfl)
 have pF:w3.heap[w.heap.size]? = some (.cells #[.int .i64 p.kind,.int .u32 p.mine,.int .u32 p.AL,.int .u32 p.yours,.int .u32 p.seq,.int .u32 p.AX,.int .u32 p.stamp,.int .u32 p.echo,.complex .f64 p.zr p.zi,b] 27 (0,0)):=(hg.block w.heap.size (AU HS2.out.2) (fun he => by have:=(H0.out.old _ (.inr (hown _ he.symm))).1; omega)).trans HS2.out.2
 have VT:=Lib.hid hK3
 have Zm:=Lib.hid jq
 have HR3:=Lib.hid hR
 have ZH:=Lib.hid hbl
 have pG:=Lib.hid hg.size
 clear hR hbl hg hown HS2 hQ2 hM2 hK3 HM HP hHeld
 refine hK.out _ _ ⟨jq,pF⟩ (fun hHeld => ?_)
 clear hK K jq pF
 refine nm 17 ?_
 refine pu 8 18 xP ?_
 refine pu 9 19 xQ ?_
 refine la 10 none xR fun K hK => ?_
 have hz1:w3.cell? ⟨g,11,none⟩ = some (.slice A L.out.length c):=(AA Zm.out 11).trans rfl
 have hz2:=AB Zm.out 11
 refine BO (fun wz => At wz B Af (fun k => Ac k ∨ w.heap.size ≤ k ∧ k < w3.heap.size) g { L with out:=L.out ++ [p] } q (.slice A1 n1 c1) ∧ wz.heap.size = w3.heap.size ∧ Kept w wz (fun k => Ac k ∨ k = g) ∧ Below B w wz ∧ wz.heap[w.heap.size]? = some (.cells #[.int .i64 p.kind,.int .u32 p.mine,.int .u32 p.AL,.int .u32 p.yours,.int .u32 p.seq,.int .u32 p.AX,.int .u32 p.stamp,.int .u32 p.echo,.complex .f64 p.zr p.zi,b] 27 (0,0))) (by rfl) rfl ⟨_,by first | (go_simp; done) | (go_simp; rfl),?_,?_,?_,?_,?_⟩ (fun w4 hF => ?_)
 ·have hsz:=VT.out.1
  refine At.put' Zm.out 11 _ rfl (Kd.Le H0.out.queue VT.out (fun k ho => H0.out.apart k ho)) (Kd.Az (Kd.CW HR3.out) (fun k hk => hk.1.elim (fun h => .inl h) (fun h => .inr ⟨h,hk.2.2.1⟩))) H0.out.low (fun k hk ho => ho.elim (H0.out.apart k hk) (fun hn => by have:=(H0.out.old k (.inl hk)).1; omega)) (fun k hk => ?_)
  have hgl:g < w.heap.size:=AU H0.out.blk
  rcases hk with hk | hk | hk
  ·have:=H0.out.old k (.inl hk); exact ⟨by omega,this.2⟩
  ·have:=H0.out.old k (.inr hk); exact ⟨by omega,this.2⟩
  ·exact ⟨hk.2,by omega⟩
 ·simp [World.setCell]
 ·exact (VT.out.mono (fun k hk => .inl hk)).setCell (p:=⟨g,11,none⟩) (.inl (.inr rfl)) _
 ·exact ZH.out.setCell (p:=⟨g,11,none⟩) H0.out.low _
 ·exact (Below.heap_setCell w3 ⟨g,11,none⟩ _ w.heap.size (by have:=AU H0.out.blk; show w.heap.size ≠ g; omega)).trans hHeld.2
 have HF:=Lib.hid hF
 clear hF hz1 hz2 hHeld
 refine hK.out _ _ ?_
 clear hK K
 refine BN (by kernel_rfl) ?_
 go_wp2
 go_end0
 have hL:emit_ L p = { L with out:=L.out ++ [p] }:=by unfold emit_; rw [if_pos (by omega)]
 rw [hL]
 refine ⟨rfl,.slice A1 n1 c1,?_,HF.out.2.2.1,HF.out.2.2.2.1⟩
 rw [HF.out.2.1]
 exact HF.out.1
def CY (L:Lk):BJ:=⟨1,L.token,if L.known then L.AL else 0,if L.known then L.yours else 0,if L.phase = 2 then 1 else 0,0,0,0,0,0,[]⟩
def HB (w0:World) (g r:Nat) (L:Lk) (q o:Value) (mine AL yours seq:Int) (w:World):Prop :=
 w.heap[g]? = some (.cells (row L q o) 131 (0,0)) ∧ w.heap[r]? = some (.cells #[.int .i64 1,.int .u32 mine,.int .u32 AL,.int .u32 yours,.int .u32 seq,.int .u32 0,.int .u32 0,.int .u32 0,.complex .f64 0 0,.slice none 0 0] 27 (0,0)) ∧ Below w0.heap.size w0 w
theorem BL.from_ {w w2 w':World} {B g:Nat} {Af Ac:Nat → Prop} {L:Lk} {q:Value} (hq:∀ k,Af k → k < w.heap.size) (hg:g < w.heap.size) (hb:Below w.heap.size w w2) (hB:B ≤ w.heap.size) (h:BL w2 B Af Ac g L q w'):BL w B Af Ac g L q w':=by
 obtain ⟨o,h1,h2,h3⟩:=h
 have hs:=hb.size
 refine ⟨o,⟨h1.blk,h1.queue,Kd.Az h1.out (fun k hk => hk.elim (fun h => .inl h) (fun h => .inr ⟨by omega,h.2⟩)),h1.low,fun k hk ho => ?_,fun k hk => ?_⟩,(Kept.of_below hb _).DT h2 (fun k hk => .inl hk),(hb.mono hB).trans h3⟩
 ·rcases ho with ho | ho
  ·exact h1.apart k hk (.inl ho)
  ·have:=hq k hk; omega
 ·rcases hk with hk | hk | hk
  ·exact h1.old k (.inl hk)
  ·exact h1.old k (.inr (.inl hk))
  ·exact ⟨hk.2,by omega⟩
theorem Tz {w:World} {B g:Nat} {Af Ac:Nat → Prop} {L:Lk} {q o:Value} (h:At w B Af Ac g L q o) (hok:L.Ok) (hB:B ≤ w.heap.size) (hkn:L.known = false) (Ci:¬ L.phase = 2) :
  Calls Try.prog 73 #[.pointer (some ⟨g,0,none⟩)] w fun e w' => e = .returned (.tuple #[]) ∧ BL w B Af Ac g (emit_ L (⟨1,L.token,0,0,0,0,0,0,0,0,[]⟩:BJ)) q w':=by
 have hc2:w.cell? ⟨g,2,none⟩ = some (.int .u32 L.token):=(AA h.blk 2).trans rfl
 have hgl:g < w.heap.size:=AU h.blk
 have H0:=Lib.hid h
 have OK:=Lib.hid hok
 have YA:=Lib.hid hkn
 have ES:=Lib.hid Ci
 clear h hok hkn
 go_enter Try.func73,Try.ntmps73
 go_wp2_with (first | ((with_reducible refine gate_ (.store 27 (.tmp 2) (.tmp 7)) rfl ?_); (refine Ae rfl rfl 27 (.tmp 2) (.tmp 7) rfl w.heap.size _ rfl rfl 27 _ (heap_alloc_new w _) (by kernel_rfl) rfl (by kernel_rfl) ?_); (intro w1 hb1 FB); (have hbl:=FB.below ((Below.refl w.heap.size w).alloc (Nat.le_refl _) _) (Nat.le_refl _)); (have HW:=Lib.hid (show HB w g w.heap.size L q o L.token 0 0 0 w1 from ⟨(hbl.block g hgl).trans H0.out.blk,hb1,hbl⟩)); (have hc5:w1.cell? ⟨g,5,none⟩ = some (.bool false):=(AA HW.out.1 5).trans (by rw [← YA.out]; rfl)); (clear hb1 FB hbl hc2); (have hc1:w1.cell? ⟨g,1,none⟩ = some (.int .i64 L.phase):=(AA HW.out.1 1).trans rfl); (have Ci:=ES.out)) | ((with_reducible refine gate_ (.store 24 (.tmp 27) (.const (.int .u32 1))) rfl ?_); (refine AY (fun wz => HB w g w.heap.size L q o L.token 0 0 1 wz) rfl rfl ⟨_,(by have hz1:World.cell? _ ⟨w.heap.size,4,none⟩ = some _:=(AA HW.out.2.1 4).trans rfl; have hz2:=AB HW.out.2.1 4; first | (go_simp; done) | (go_simp; rfl)),(Below.heap_setCell _ ⟨w.heap.size,4,none⟩ _ g (by show g ≠ w.heap.size; omega)).trans HW.out.1,AQ HW.out.2.1 4 _ rfl,HW.out.2.2.setCell (p:=⟨w.heap.size,4,none⟩) (Nat.le_refl _) _⟩ (fun w5 hF => ?_)); (have Aq:=Lib.hid hF); (clear hF HW hc1); (have HW:=Aq); (clear Aq)) | ((with_reducible refine AV (N:=29) rfl ?_); (refine Jd (fun v wz => v = .agg #[.int .i64 1,.int .u32 L.token,.int .u32 0,.int .u32 0,.int .u32 0,.int .u32 0,.int .u32 0,.int .u32 0,.complex .f64 0 0,.slice none 0 0] ∧ HB w g w.heap.size L q o L.token 0 0 0 wz) rfl ⟨.agg #[.int .i64 1,.int .u32 L.token,.int .u32 0,.int .u32 0,.int .u32 0,.int .u32 0,.int .u32 0,.int .u32 0,.complex .f64 0 0,.slice none 0 0],_,(by have DZ:=Try.underlying27; have hd0:World.cell? _ ⟨w.heap.size,0,none⟩ = some (.int .i64 1):=(AA HW.out.2.1 0).trans rfl; have hd1:World.cell? _ ⟨w.heap.size,1,none⟩ = some (.int .u32 L.token):=(AA HW.out.2.1 1).trans rfl; have hd2:World.cell? _ ⟨w.heap.size,2,none⟩ = some (.int .u32 0):=(AA HW.out.2.1 2).trans rfl; have hd3:World.cell? _ ⟨w.heap.size,3,none⟩ = some (.int .u32 0):=(AA HW.out.2.1 3).trans rfl; have hd4:World.cell? _ ⟨w.heap.size,4,none⟩ = some (.int .u32 0):=(AA HW.out.2.1 4).trans rfl; have hd5:World.cell? _ ⟨w.heap.size,5,none⟩ = some (.int .u32 0):=(AA HW.out.2.1 5).trans rfl; have hd6:World.cell? _ ⟨w.heap.size,6,none⟩ = some (.int .u32 0):=(AA HW.out.2.1 6).trans rfl; have hd7:World.cell? _ ⟨w.heap.size,7,none⟩ = some (.int .u32 0):=(AA HW.out.2.1 7).trans rfl; have hd8:World.cell? _ ⟨w.heap.size,8,none⟩ = some (.complex .f64 0 0):=(AA HW.out.2.1 8).trans rfl; have hd9:World.cell? _ ⟨w.heap.size,9,none⟩ = some (.slice none 0 0):=(AA HW.out.2.1 9).trans rfl; first | (go_simp; done) | (go_simp; rfl)),rfl,HW.out⟩ (fun v9 w8 hF => ?_)); (obtain ⟨rfl,hF2⟩:=hF); (have Aq:=Lib.hid hF2); (clear hF2 HW); (have HW:=Aq); (clear Aq)) | (go_at_call 80; (refine (Ec (⟨1,L.token,0,0,0,0,0,0,0,0,[]⟩:BJ) (.slice none 0 0) (H0.out.below HW.out.2.2) OK.out (Nat.le_trans hB HW.out.2.2.size) (DI:=fun _ => False) (F5.2 ⟨_,rfl,Kd.Cc _ _ _ _ _⟩) (fun _ hk => hk.elim)).mono ?_); (rintro e w9 ⟨rfl,hE⟩); (have HE:=Lib.hid (BL.from_ (fun k hk => (H0.out.old k (.inl hk)).1) hgl HW.out.2.2 hB hE)); (clear hE HW)))
 all_goals (go_end0; exact ⟨rfl,HE.out⟩)
theorem UC {w:World} {B g:Nat} {Af Ac:Nat → Prop} {L:Lk} {q o:Value} (h:At w B Af Ac g L q o) (hok:L.Ok) (hB:B ≤ w.heap.size) (hkn:L.known = false) (Ci:L.phase = 2) :
  Calls Try.prog 73 #[.pointer (some ⟨g,0,none⟩)] w fun e w' => e = .returned (.tuple #[]) ∧ BL w B Af Ac g (emit_ L (⟨1,L.token,0,0,1,0,0,0,0,0,[]⟩:BJ)) q w':=by
 have hc2:w.cell? ⟨g,2,none⟩ = some (.int .u32 L.token):=(AA h.blk 2).trans rfl
 have hgl:g < w.heap.size:=AU h.blk
 have H0:=Lib.hid h
 have OK:=Lib.hid hok
 have YA:=Lib.hid hkn
 have ES:=Lib.hid Ci
 clear h hok hkn
 go_enter Try.func73,Try.ntmps73
 go_wp2_with (first | ((with_reducible refine gate_ (.store 27 (.tmp 2) (.tmp 7)) rfl ?_); (refine Ae rfl rfl 27 (.tmp 2) (.tmp 7) rfl w.heap.size _ rfl rfl 27 _ (heap_alloc_new w _) (by kernel_rfl) rfl (by kernel_rfl) ?_); (intro w1 hb1 FB); (have hbl:=FB.below ((Below.refl w.heap.size w).alloc (Nat.le_refl _) _) (Nat.le_refl _)); (have HW:=Lib.hid (show HB w g w.heap.size L q o L.token 0 0 0 w1 from ⟨(hbl.block g hgl).trans H0.out.blk,hb1,hbl⟩)); (have hc5:w1.cell? ⟨g,5,none⟩ = some (.bool false):=(AA HW.out.1 5).trans (by rw [← YA.out]; rfl)); (clear hb1 FB hbl hc2); (have hc1:w1.cell? ⟨g,1,none⟩ = some (.int .i64 L.phase):=(AA HW.out.1 1).trans rfl); (have Ci:=ES.out)) | ((with_reducible refine gate_ (.store 24 (.tmp 27) (.const (.int .u32 1))) rfl ?_); (refine AY (fun wz => HB w g w.heap.size L q o L.token 0 0 1 wz) rfl rfl ⟨_,(by have hz1:World.cell? _ ⟨w.heap.size,4,none⟩ = some _:=(AA HW.out.2.1 4).trans rfl; have hz2:=AB HW.out.2.1 4; first | (go_simp; done) | (go_simp; rfl)),(Below.heap_setCell _ ⟨w.heap.size,4,none⟩ _ g (by show g ≠ w.heap.size; omega)).trans HW.out.1,AQ HW.out.2.1 4 _ rfl,HW.out.2.2.setCell (p:=⟨w.heap.size,4,none⟩) (Nat.le_refl _) _⟩ (fun w5 hF => ?_)); (have Aq:=Lib.hid hF); (clear hF HW hc1); (have HW:=Aq); (clear Aq)) | ((with_reducible refine AV (N:=29) rfl ?_); (refine Jd (fun v wz => v = .agg #[.int .i64 1,.int .u32 L.token,.int .u32 0,.int .u32 0,.int .u32 1,.int .u32 0,.int .u32 0,.int .u32 0,.complex .f64 0 0,.slice none 0 0] ∧ HB w g w.heap.size L q o L.token 0 0 1 wz) rfl ⟨.agg #[.int .i64 1,.int .u32 L.token,.int .u32 0,.int .u32 0,.int .u32 1,.int .u32 0,.int .u32 0,.int .u32 0,.complex .f64 0 0,.slice none 0 0],_,(by have DZ:=Try.underlying27; have hd0:World.cell? _ ⟨w.heap.size,0,none⟩ = some (.int .i64 1):=(AA HW.out.2.1 0).trans rfl; have hd1:World.cell? _ ⟨w.heap.size,1,none⟩ = some (.int .u32 L.token):=(AA HW.out.2.1 1).trans rfl; have hd2:World.cell? _ ⟨w.heap.size,2,none⟩ = some (.int .u32 0):=(AA HW.out.2.1 2).trans rfl; have hd3:World.cell? _ ⟨w.heap.size,3,none⟩ = some (.int .u32 0):=(AA HW.out.2.1 3).trans rfl; have hd4:World.cell? _ ⟨w.heap.size,4,none⟩ = some (.int .u32 1):=(AA HW.out.2.1 4).trans rfl; have hd5:World.cell? _ ⟨w.heap.size,5,none⟩ = some (.int .u32 0):=(AA HW.out.2.1 5).trans rfl; have hd6:World.cell? _ ⟨w.heap.size,6,none⟩ = some (.int .u32 0):=(AA HW.out.2.1 6).trans rfl; have hd7:World.cell? _ ⟨w.heap.size,7,none⟩ = some (.int .u32 0):=(AA HW.out.2.1 7).trans rfl; have hd8:World.cell? _ ⟨w.heap.size,8,none⟩ = some (.complex .f64 0 0):=(AA HW.out.2.1 8).trans rfl; have hd9:World.cell? _ ⟨w.heap.size,9,none⟩ = some (.slice none 0 0):=(AA HW.out.2.1 9).trans rfl; first | (go_simp; done) | (go_simp; rfl)),rfl,HW.out⟩ (fun v9 w8 hF => ?_)); (obtain ⟨rfl,hF2⟩:=hF); (have Aq:=Lib.hid hF2); (clear hF2 HW); (have HW:=Aq); (clear Aq)) | (go_at_call 80; (refine (Ec (⟨1,L.token,0,0,1,0,0,0,0,0,[]⟩:BJ) (.slice none 0 0) (H0.out.below HW.out.2.2) OK.out (Nat.le_trans hB HW.out.2.2.size) (DI:=fun _ => False) (F5.2 ⟨_,rfl,Kd.Cc _ _ _ _ _⟩) (fun _ hk => hk.elim)).mono ?_); (rintro e w9 ⟨rfl,hE⟩); (have HE:=Lib.hid (BL.from_ (fun k hk => (H0.out.old k (.inl hk)).1) hgl HW.out.2.2 hB hE)); (clear hE HW)))
 all_goals (go_end0; exact ⟨rfl,HE.out⟩)
theorem UD {w:World} {B g:Nat} {Af Ac:Nat → Prop} {L:Lk} {q o:Value} (h:At w B Af Ac g L q o) (hok:L.Ok) (hB:B ≤ w.heap.size) (hkn:L.known = true) (Ci:¬ L.phase = 2) :
  Calls Try.prog 73 #[.pointer (some ⟨g,0,none⟩)] w fun e w' => e = .returned (.tuple #[]) ∧ BL w B Af Ac g (emit_ L (⟨1,L.token,L.AL,L.yours,0,0,0,0,0,0,[]⟩:BJ)) q w':=by
 have hc2:w.cell? ⟨g,2,none⟩ = some (.int .u32 L.token):=(AA h.blk 2).trans rfl
 have hgl:g < w.heap.size:=AU h.blk
 have H0:=Lib.hid h
 have OK:=Lib.hid hok
 have YA:=Lib.hid hkn
 have ES:=Lib.hid Ci
 clear h hok hkn
 go_enter Try.func73,Try.ntmps73
 go_wp2_with (first | ((with_reducible refine gate_ (.store 27 (.tmp 2) (.tmp 7)) rfl ?_); (refine Ae rfl rfl 27 (.tmp 2) (.tmp 7) rfl w.heap.size _ rfl rfl 27 _ (heap_alloc_new w _) (by kernel_rfl) rfl (by kernel_rfl) ?_); (intro w1 hb1 FB); (have hbl:=FB.below ((Below.refl w.heap.size w).alloc (Nat.le_refl _) _) (Nat.le_refl _)); (have HW:=Lib.hid (show HB w g w.heap.size L q o L.token 0 0 0 w1 from ⟨(hbl.block g hgl).trans H0.out.blk,hb1,hbl⟩)); (have hc5:w1.cell? ⟨g,5,none⟩ = some (.bool true):=(AA HW.out.1 5).trans (by rw [← YA.out]; rfl)); (clear hb1 FB hbl hc2)))
 have hSS:w1.drew.heap[g]? = some (.cells (row L q o) 131 (0,0)):=HW.out.1
 have EJ:HB w g w.heap.size L q o L.token 0 0 0 w1.drew:=⟨HW.out.1,HW.out.2.1,Aj HW.out.2.2⟩
 clear HW hc5
 refine Aw (n:=12) (S:=fun w' => w'.heap[g]? = some (.cells (row L q o) 131 (0,0))) (ds:=[]) fU (by kernel_rfl) rfl rfl (hSS) (fun hHeld => ?_)
 generalize w1.drew = w2 at EJ hHeld ⊢
 have HW:=Lib.hid EJ
 clear EJ
 refine pu 0 12 fV ?_
 refine pu 1 13 fZ ?_
 refine pu 2 14 gG ?_
 refine tk 3 15 gI hHeld ?_ (hf:=by intro w' s0; have hc3:w'.cell? ⟨g,3,none⟩ = some (.int .u32 L.AL):=(AA s0 3).trans rfl; clear s0; go_simp; with_reducible rfl)
 refine pu 4 16 jX ?_
 refine pu 5 17 jY ?_
 refine pu 6 18 jZ ?_
 refine tk 7 19 jc hHeld ?_ (hf:=by intro w' s0; have hc4:w'.cell? ⟨g,4,none⟩ = some (.int .u32 L.yours):=(AA s0 4).trans rfl; clear s0; go_simp; with_reducible rfl)
 refine pu 8 20 gJ ?_
 refine on 9 none gK fun K hK => ?_
 have hz1:w2.cell? ⟨w.heap.size,2,none⟩ = some _:=(AA HW.out.2.1 2).trans rfl
 have hz2:=AB HW.out.2.1 2
 refine BO (fun wz => HB w g w.heap.size L q o L.token L.AL 0 0 wz) (by rfl) rfl ⟨_,by first | (go_simp; done) | (go_simp; rfl),(Below.heap_setCell _ ⟨w.heap.size,2,none⟩ _ g (by show g ≠ w.heap.size; omega)).trans HW.out.1,AQ HW.out.2.1 2 _ rfl,HW.out.2.2.setCell (p:=⟨w.heap.size,2,none⟩) (Nat.le_refl _) _⟩ (fun w3 hF => ?_)
 have Aq:=Lib.hid hF
 clear hF hz1 hz2 HW hHeld
 have HW:=Aq
 clear Aq
 refine hK.out _ _ HW.out.1 (fun hHeld => ?_)
 clear hK K
 refine pu 10 21 gQ ?_
 refine on 11 none gU fun K hK => ?_
 have hz1:w3.cell? ⟨w.heap.size,3,none⟩ = some _:=(AA HW.out.2.1 3).trans rfl
 have hz2:=AB HW.out.2.1 3
 refine BO (fun wz => HB w g w.heap.size L q o L.token L.AL L.yours 0 wz) (by rfl) rfl ⟨_,by first | (go_simp; done) | (go_simp; rfl),(Below.heap_setCell _ ⟨w.heap.size,3,none⟩ _ g (by show g ≠ w.heap.size; omega)).trans HW.out.1,AQ HW.out.2.1 3 _ rfl,HW.out.2.2.setCell (p:=⟨w.heap.size,3,none⟩) (Nat.le_refl _) _⟩ (fun w4 hF => ?_)
 have Aq:=Lib.hid hF
 clear hF hz1 hz2 HW hHeld
 have HW:=Aq
 clear Aq
 refine hK.out _ _ HW.out.1 (fun hHeld => ?_)
 clear hK K
 refine BN (by kernel_rfl) ?_
 clear hHeld
 have hc1:w4.cell? ⟨g,1,none⟩ = some (.int .i64 L.phase):=(AA HW.out.1 1).trans rfl
 have Ci:=ES.out
 go_wp2_with (first | ((with_reducible refine gate_ (.store 24 (.tmp 27) (.const (.int .u32 1))) rfl ?_); (refine AY (fun wz => HB w g w.heap.size L q o L.token L.AL L.yours 1 wz) rfl rfl ⟨_,(by have hz1:World.cell? _ ⟨w.heap.size,4,none⟩ = some _:=(AA HW.out.2.1 4).trans rfl; have hz2:=AB HW.out.2.1 4; first | (go_simp; done) | (go_simp; rfl)),(Below.heap_setCell _ ⟨w.heap.size,4,none⟩ _ g (by show g ≠ w.heap.size; omega)).trans HW.out.1,AQ HW.out.2.1 4 _ rfl,HW.out.2.2.setCell (p:=⟨w.heap.size,4,none⟩) (Nat.le_refl _) _⟩ (fun w5 hF => ?_)); (have Aq:=Lib.hid hF); (clear hF HW hc1); (have HW:=Aq); (clear Aq)) | ((with_reducible refine AV (N:=29) rfl ?_); (refine Jd (fun v wz => v = .agg #[.int .i64 1,.int .u32 L.token,.int .u32 L.AL,.int .u32 L.yours,.int .u32 0,.int .u32 0,.int .u32 0,.int .u32 0,.complex .f64 0 0,.slice none 0 0] ∧ HB w g w.heap.size L q o L.token L.AL L.yours 0 wz) rfl ⟨.agg #[.int .i64 1,.int .u32 L.token,.int .u32 L.AL,.int .u32 L.yours,.int .u32 0,.int .u32 0,.int .u32 0,.int .u32 0,.complex .f64 0 0,.slice none 0 0],_,(by have DZ:=Try.underlying27; have hd0:World.cell? _ ⟨w.heap.size,0,none⟩ = some (.int .i64 1):=(AA HW.out.2.1 0).trans rfl; have hd1:World.cell? _ ⟨w.heap.size,1,none⟩ = some (.int .u32 L.token):=(AA HW.out.2.1 1).trans rfl; have hd2:World.cell? _ ⟨w.heap.size,2,none⟩ = some (.int .u32 L.AL):=(AA HW.out.2.1 2).trans rfl; have hd3:World.cell? _ ⟨w.heap.size,3,none⟩ = some (.int .u32 L.yours):=(AA HW.out.2.1 3).trans rfl; have hd4:World.cell? _ ⟨w.heap.size,4,none⟩ = some (.int .u32 0):=(AA HW.out.2.1 4).trans rfl; have hd5:World.cell? _ ⟨w.heap.size,5,none⟩ = some (.int .u32 0):=(AA HW.out.2.1 5).trans rfl; have hd6:World.cell? _ ⟨w.heap.size,6,none⟩ = some (.int .u32 0):=(AA HW.out.2.1 6).trans rfl; have hd7:World.cell? _ ⟨w.heap.size,7,none⟩ = some (.int .u32 0):=(AA HW.out.2.1 7).trans rfl; have hd8:World.cell? _ ⟨w.heap.size,8,none⟩ = some (.complex .f64 0 0):=(AA HW.out.2.1 8).trans rfl; have hd9:World.cell? _ ⟨w.heap.size,9,none⟩ = some (.slice none 0 0):=(AA HW.out.2.1 9).trans rfl; first | (go_simp; done) | (go_simp; rfl)),rfl,HW.out⟩ (fun v9 w8 hF => ?_)); (obtain ⟨rfl,hF2⟩:=hF); (have Aq:=Lib.hid hF2); (clear hF2 HW); (have HW:=Aq); (clear Aq)) | (go_at_call 80; (refine (Ec (⟨1,L.token,L.AL,L.yours,0,0,0,0,0,0,[]⟩:BJ) (.slice none 0 0) (H0.out.below HW.out.2.2) OK.out (Nat.le_trans hB HW.out.2.2.size) (DI:=fun _ => False) (F5.2 ⟨_,rfl,Kd.Cc _ _ _ _ _⟩) (fun _ hk => hk.elim)).mono ?_); (rintro e w9 ⟨rfl,hE⟩); (have HE:=Lib.hid (BL.from_ (fun k hk => (H0.out.old k (.inl hk)).1) hgl HW.out.2.2 hB hE)); (clear hE HW)))
 all_goals (go_end0; exact ⟨rfl,HE.out⟩)
theorem UE {w:World} {B g:Nat} {Af Ac:Nat → Prop} {L:Lk} {q o:Value} (h:At w B Af Ac g L q o) (hok:L.Ok) (hB:B ≤ w.heap.size) (hkn:L.known = true) (Ci:L.phase = 2) :
  Calls Try.prog 73 #[.pointer (some ⟨g,0,none⟩)] w fun e w' => e = .returned (.tuple #[]) ∧ BL w B Af Ac g (emit_ L (⟨1,L.token,L.AL,L.yours,1,0,0,0,0,0,[]⟩:BJ)) q w':=by
 have hc2:w.cell? ⟨g,2,none⟩ = some (.int .u32 L.token):=(AA h.blk 2).trans rfl
 have hgl:g < w.heap.size:=AU h.blk
 have H0:=Lib.hid h
 have OK:=Lib.hid hok
 have YA:=Lib.hid hkn
 have ES:=Lib.hid Ci
 clear h hok hkn
 go_enter Try.func73,Try.ntmps73
 go_wp2_with (first | ((with_reducible refine gate_ (.store 27 (.tmp 2) (.tmp 7)) rfl ?_); (refine Ae rfl rfl 27 (.tmp 2) (.tmp 7) rfl w.heap.size _ rfl rfl 27 _ (heap_alloc_new w _) (by kernel_rfl) rfl (by kernel_rfl) ?_); (intro w1 hb1 FB); (have hbl:=FB.below ((Below.refl w.heap.size w).alloc (Nat.le_refl _) _) (Nat.le_refl _)); (have HW:=Lib.hid (show HB w g w.heap.size L q o L.token 0 0 0 w1 from ⟨(hbl.block g hgl).trans H0.out.blk,hb1,hbl⟩)); (have hc5:w1.cell? ⟨g,5,none⟩ = some (.bool true):=(AA HW.out.1 5).trans (by rw [← YA.out]; rfl)); (clear hb1 FB hbl hc2)))
 have hSS:w1.drew.heap[g]? = some (.cells (row L q o) 131 (0,0)):=HW.out.1
 have EJ:HB w g w.heap.size L q o L.token 0 0 0 w1.drew:=⟨HW.out.1,HW.out.2.1,Aj HW.out.2.2⟩
 clear HW hc5
 refine Aw (n:=12) (S:=fun w' => w'.heap[g]? = some (.cells (row L q o) 131 (0,0))) (ds:=[]) fU (by kernel_rfl) rfl rfl (hSS) (fun hHeld => ?_)
 generalize w1.drew = w2 at EJ hHeld ⊢
 have HW:=Lib.hid EJ
 clear EJ
 refine pu 0 12 fV ?_
 refine pu 1 13 fZ ?_
 refine pu 2 14 gG ?_
 refine tk 3 15 gI hHeld ?_ (hf:=by intro w' s0; have hc3:w'.cell? ⟨g,3,none⟩ = some (.int .u32 L.AL):=(AA s0 3).trans rfl; clear s0; go_simp; with_reducible rfl)
 refine pu 4 16 jX ?_
 refine pu 5 17 jY ?_
 refine pu 6 18 jZ ?_
 refine tk 7 19 jc hHeld ?_ (hf:=by intro w' s0; have hc4:w'.cell? ⟨g,4,none⟩ = some (.int .u32 L.yours):=(AA s0 4).trans rfl; clear s0; go_simp; with_reducible rfl)
 refine pu 8 20 gJ ?_
 refine on 9 none gK fun K hK => ?_
 have hz1:w2.cell? ⟨w.heap.size,2,none⟩ = some _:=(AA HW.out.2.1 2).trans rfl
 have hz2:=AB HW.out.2.1 2
 refine BO (fun wz => HB w g w.heap.size L q o L.token L.AL 0 0 wz) (by rfl) rfl ⟨_,by first | (go_simp; done) | (go_simp; rfl),(Below.heap_setCell _ ⟨w.heap.size,2,none⟩ _ g (by show g ≠ w.heap.size; omega)).trans HW.out.1,AQ HW.out.2.1 2 _ rfl,HW.out.2.2.setCell (p:=⟨w.heap.size,2,none⟩) (Nat.le_refl _) _⟩ (fun w3 hF => ?_)
 have Aq:=Lib.hid hF
 clear hF hz1 hz2 HW hHeld
 have HW:=Aq
 clear Aq
 refine hK.out _ _ HW.out.1 (fun hHeld => ?_)
 clear hK K
 refine pu 10 21 gQ ?_
 refine on 11 none gU fun K hK => ?_
 have hz1:w3.cell? ⟨w.heap.size,3,none⟩ = some _:=(AA HW.out.2.1 3).trans rfl
 have hz2:=AB HW.out.2.1 3
 refine BO (fun wz => HB w g w.heap.size L q o L.token L.AL L.yours 0 wz) (by rfl) rfl ⟨_,by first | (go_simp; done) | (go_simp; rfl),(Below.heap_setCell _ ⟨w.heap.size,3,none⟩ _ g (by show g ≠ w.heap.size; omega)).trans HW.out.1,AQ HW.out.2.1 3 _ rfl,HW.out.2.2.setCell (p:=⟨w.heap.size,3,none⟩) (Nat.le_refl _) _⟩ (fun w4 hF => ?_)
 have Aq:=Lib.hid hF
 clear hF hz1 hz2 HW hHeld
 have HW:=Aq
 clear Aq
 refine hK.out _ _ HW.out.1 (fun hHeld => ?_)
 clear hK K
 refine BN (by kernel_rfl) ?_
 clear hHeld
 have hc1:w4.cell? ⟨g,1,none⟩ = some (.int .i64 L.phase):=(AA HW.out.1 1).trans rfl
 have Ci:=ES.out
 go_wp2_with (first | ((with_reducible refine gate_ (.store 24 (.tmp 27) (.const (.int .u32 1))) rfl ?_); (refine AY (fun wz => HB w g w.heap.size L q o L.token L.AL L.yours 1 wz) rfl rfl ⟨_,(by have hz1:World.cell? _ ⟨w.heap.size,4,none⟩ = some _:=(AA HW.out.2.1 4).trans rfl; have hz2:=AB HW.out.2.1 4; first | (go_simp; done) | (go_simp; rfl)),(Below.heap_setCell _ ⟨w.heap.size,4,none⟩ _ g (by show g ≠ w.heap.size; omega)).trans HW.out.1,AQ HW.out.2.1 4 _ rfl,HW.out.2.2.setCell (p:=⟨w.heap.size,4,none⟩) (Nat.le_refl _) _⟩ (fun w5 hF => ?_)); (have Aq:=Lib.hid hF); (clear hF HW hc1); (have HW:=Aq); (clear Aq)) | ((with_reducible refine AV (N:=29) rfl ?_); (refine Jd (fun v wz => v = .agg #[.int .i64 1,.int .u32 L.token,.int .u32 L.AL,.int .u32 L.yours,.int .u32 1,.int .u32 0,.int .u32 0,.int .u32 0,.complex .f64 0 0,.slice none 0 0] ∧ HB w g w.heap.size L q o L.token L.AL L.yours 1 wz) rfl ⟨.agg #[.int .i64 1,.int .u32 L.token,.int .u32 L.AL,.int .u32 L.yours,.int .u32 1,.int .u32 0,.int .u32 0,.int .u32 0,.complex .f64 0 0,.slice none 0 0],_,(by have DZ:=Try.underlying27; have hd0:World.cell? _ ⟨w.heap.size,0,none⟩ = some (.int .i64 1):=(AA HW.out.2.1 0).trans rfl; have hd1:World.cell? _ ⟨w.heap.size,1,none⟩ = some (.int .u32 L.token):=(AA HW.out.2.1 1).trans rfl; have hd2:World.cell? _ ⟨w.heap.size,2,none⟩ = some (.int .u32 L.AL):=(AA HW.out.2.1 2).trans rfl; have hd3:World.cell? _ ⟨w.heap.size,3,none⟩ = some (.int .u32 L.yours):=(AA HW.out.2.1 3).trans rfl; have hd4:World.cell? _ ⟨w.heap.size,4,none⟩ = some (.int .u32 1):=(AA HW.out.2.1 4).trans rfl; have hd5:World.cell? _ ⟨w.heap.size,5,none⟩ = some (.int .u32 0):=(AA HW.out.2.1 5).trans rfl; have hd6:World.cell? _ ⟨w.heap.size,6,none⟩ = some (.int .u32 0):=(AA HW.out.2.1 6).trans rfl; have hd7:World.cell? _ ⟨w.heap.size,7,none⟩ = some (.int .u32 0):=(AA HW.out.2.1 7).trans rfl; have hd8:World.cell? _ ⟨w.heap.size,8,none⟩ = some (.complex .f64 0 0):=(AA HW.out.2.1 8).trans rfl; have hd9:World.cell? _ ⟨w.heap.size,9,none⟩ = some (.slice none 0 0):=(AA HW.out.2.1 9).trans rfl; first | (go_simp; done) | (go_simp; rfl)),rfl,HW.out⟩ (fun v9 w8 hF => ?_)); (obtain ⟨rfl,hF2⟩:=hF); (have Aq:=Lib.hid hF2); (clear hF2 HW); (have HW:=Aq); (clear Aq)) | (go_at_call 80; (refine (Ec (⟨1,L.token,L.AL,L.yours,1,0,0,0,0,0,[]⟩:BJ) (.slice none 0 0) (H0.out.below HW.out.2.2) OK.out (Nat.le_trans hB HW.out.2.2.size) (DI:=fun _ => False) (F5.2 ⟨_,rfl,Kd.Cc _ _ _ _ _⟩) (fun _ hk => hk.elim)).mono ?_); (rintro e w9 ⟨rfl,hE⟩); (have HE:=Lib.hid (BL.from_ (fun k hk => (H0.out.old k (.inl hk)).1) hgl HW.out.2.2 hB hE)); (clear hE HW)))
 all_goals (go_end0; exact ⟨rfl,HE.out⟩)
theorem F7 {w:World} {B g:Nat} {Af Ac:Nat → Prop} {L:Lk} {q o:Value} (h:At w B Af Ac g L q o) (hok:L.Ok) (hB:B ≤ w.heap.size) :
  Calls Try.prog 73 #[.pointer (some ⟨g,0,none⟩)] w fun e w' => e = .returned (.tuple #[]) ∧ BL w B Af Ac g (emit_ L (CY L)) q w':=by
 by_cases hp:L.phase = 2 <;> cases hk:L.known
 ·have:=UC h hok hB hk hp
  simpa [CY,hk,hp] using this
 ·have:=UE h hok hB hk hp
  simpa [CY,hk,hp] using this
 ·have:=Tz h hok hB hk hp
  simpa [CY,hk,hp] using this
 ·have:=UD h hok hB hk hp
  simpa [CY,hk,hp] using this
def FV (L:Lk):Lk:={ L with phase:=0,queue:=[],sent:=0,known:=false }
theorem L6 {L:Lk} (h:L.Ok):(FV L).Ok:=by
 have h1:=h.own; have h2:=h.token; have h3:=h.AL; have h4:=h.yours; have h5:=h.out; have h6:=h.base; have h7:=h.expected; have h8:=h.idle
 constructor <;> simp [FV] <;> omega
theorem QM {w:World} {B g:Nat} {Af Ac:Nat → Prop} {L:Lk} {q o:Value} (h:At w B Af Ac g L q o):Calls Try.prog 78 #[.pointer (some ⟨g,0,none⟩)] w fun e w' => e = .returned (.bool (decide (L.phase = 2))) ∧ At w' B (fun _ => False) Ac g (FV L) (.slice none 0 0) o ∧ Go.Proofs.Ytnkkgofpifhoeaa.Steps.At g w w':=by
 have hc1:w.cell? ⟨g,1,none⟩ = some (.int .i64 L.phase):=(AA h.blk 1).trans rfl
 have K0:=Lib.hid (⟨h,Steps.At.refl g w⟩:At w B Af Ac g L q o ∧ Go.Proofs.Ytnkkgofpifhoeaa.Steps.At g w w)
 clear h
 go_enter Try.func78,Try.ntmps78
 go_wp2_with (first | ((with_reducible refine gate_ (.store 3 (.tmp 13) (.const (.int .i64 0))) rfl ?_); (refine AY (fun wz => At wz B Af Ac g { L with phase:=0 } q o ∧ Go.Proofs.Ytnkkgofpifhoeaa.Steps.At g w wz) rfl rfl ⟨_,(by have hz1:World.cell? _ ⟨g,1,none⟩ = some _:=(AA K0.out.1.blk 1).trans rfl; have hz2:=AB K0.out.1.blk 1; first | (go_simp; done) | (go_simp; rfl)),K0.out.1.F6 1 _ rfl rfl rfl,Steps.At.set K0.out.2 _ _⟩ (fun Bl hF => ?_)); (have K1:=Lib.hid hF); (clear hF)) | ((with_reducible refine gate_ (.store 45 (.tmp 16) (.const (.slice none 0 0))) rfl ?_); (refine AY (fun wz => At wz B (fun _ => False) Ac g { L with phase:=0,queue:=[] } (.slice none 0 0) o ∧ Go.Proofs.Ytnkkgofpifhoeaa.Steps.At g w wz) rfl rfl ⟨_,(by have hz1:World.cell? _ ⟨g,6,none⟩ = some _:=(AA K1.out.1.blk 6).trans rfl; have hz2:=AB K1.out.1.blk 6; first | (go_simp; done) | (go_simp; rfl)),K1.out.1.noq rfl rfl rfl,Steps.At.set K1.out.2 _ _⟩ (fun BG hF => ?_)); (have K2:=Lib.hid hF); (clear hF)) | ((with_reducible refine gate_ (.store 3 (.tmp 19) (.const (.int .i64 0))) rfl ?_); (refine AY (fun wz => At wz B (fun _ => False) Ac g { L with phase:=0,queue:=[],sent:=0 } (.slice none 0 0) o ∧ Go.Proofs.Ytnkkgofpifhoeaa.Steps.At g w wz) rfl rfl ⟨_,(by have hz1:World.cell? _ ⟨g,7,none⟩ = some _:=(AA K2.out.1.blk 7).trans rfl; have hz2:=AB K2.out.1.blk 7; first | (go_simp; done) | (go_simp; rfl)),K2.out.1.F6 7 _ rfl rfl rfl,Steps.At.set K2.out.2 _ _⟩ (fun CJ hF => ?_)); (have K3:=Lib.hid hF); (clear hF)) | ((with_reducible refine gate_ (.store 4 (.tmp 22) (.const (.bool false))) rfl ?_); (refine AY (fun wz => At wz B (fun _ => False) Ac g { L with phase:=0,queue:=[],sent:=0,known:=false } (.slice none 0 0) o ∧ Go.Proofs.Ytnkkgofpifhoeaa.Steps.At g w wz) rfl rfl ⟨_,(by have hz1:World.cell? _ ⟨g,5,none⟩ = some _:=(AA K3.out.1.blk 5).trans rfl; have hz2:=AB K3.out.1.blk 5; first | (go_simp; done) | (go_simp; rfl)),K3.out.1.F6 5 _ rfl rfl rfl,Steps.At.set K3.out.2 _ _⟩ (fun Dl hF => ?_)); (have K4:=Lib.hid hF); (clear hF)))
 all_goals (go_ret; exact ⟨rfl,K4.out.1,K4.out.2⟩)
theorem EE {w w1:World} {g:Nat} (h:Go.Proofs.Ytnkkgofpifhoeaa.Steps.At g w w1):Kept w w1 (fun k => k = g):=⟨Nat.le_of_eq h.size.symm,fun i _ hn => h.block i hn⟩
def Il (w:World) (B:Nat) (Af Ac:Nat → Prop) (g:Nat) (L:Lk) (w':World):Prop :=
 ∃ Gv q,(∀ k,Gv k → Af k) ∧ ∃ o,At w' B Gv (fun k => Ac k ∨ w.heap.size ≤ k ∧ k < w'.heap.size) g L q o ∧ Kept w w' (fun k => Ac k ∨ k = g) ∧ Below B w w'
theorem Il.same {w:World} {B g:Nat} {Af Ac:Nat → Prop} {L:Lk} {q o:Value} (h:At w B Af Ac g L q o):Il w B Af Ac g L w :=
 ⟨Af,q,fun _ h => h,o,⟨h.blk,h.queue,Kd.Az h.out (fun _ hk => .inl hk),h.low,fun k hk ho => ho.elim (h.apart k hk) (fun hn => by omega),fun k hk => (hk.elim (fun x => h.old k (.inl x)) (fun x => x.elim (fun y => h.old k (.inr y)) (fun hn => by omega)))⟩,Kept.refl _ _,Below.refl _ _⟩
theorem BL.drops {w w1 w':World} {B g:Nat} {Af Ac:Nat → Prop} {L:Lk} {q:Value} (hat:Go.Proofs.Ytnkkgofpifhoeaa.Steps.At g w w1) (hB:B ≤ g) (h:BL w1 B (fun _ => False) Ac g L q w'):Il w B Af Ac g L w':=by
 obtain ⟨o,h1,h2,h3⟩:=h
 rw [hat.size] at h1
 exact ⟨fun _ => False,q,fun _ hf => hf.elim,o,h1,((EE hat).mono (fun k hk => .inr hk)).DT h2 (fun k hk => .inl hk),(hat.below (Below.refl _ _) hB).trans h3⟩
def ET (L:Lk):Lk:=if L.phase = 0 ∧ L.token ≠ 4294967295 then emit_ (EK L) (CY (EK L)) else L
def JJ (L:Lk):Int:=if L.phase = 0 then (if L.token = 4294967295 then 111 else 0) else 110
theorem V5 {w:World} {B g:Nat} {Af Ac:Nat → Prop} {L:Lk} {q o:Value} (h:At w B Af Ac g L q o) (hok:L.Ok) (hB:B ≤ w.heap.size):Calls Try.prog 27 #[.pointer (some ⟨g,0,none⟩)] w fun e w' => e = .returned (.int .i64 (JJ L)) ∧ Il w B Af Ac g (ET L) w':=by
 have hc1:w.cell? ⟨g,1,none⟩ = some (.int .i64 L.phase):=(AA h.blk 1).trans rfl
 have hc2:w.cell? ⟨g,2,none⟩ = some (.int .u32 L.token):=(AA h.blk 2).trans rfl
 have ht:=hok.token
 have H:=Lib.hid h
 have OK:=Lib.hid hok
 clear h hok
 by_cases hp:L.phase = 0
 ·by_cases htk:L.token = 4294967295
  ·have hE:JJ L = 111:=by simp [JJ,hp,htk]
   have hL:ET L = L:=by simp [ET,hp,htk]
   rw [hE,hL]
   clear hE hL
   go_enter Try.func27,Try.ntmps27
   go_wp2
   all_goals (go_ret; exact ⟨rfl,Il.same H.out⟩)
  ·have hE:JJ L = 0:=by simp [JJ,hp,htk]
   have hL:ET L = emit_ (EK L) (CY (EK L)):=by simp [ET,hp,htk]
   rw [hE,hL]
   clear hE hL
   go_enter Try.func27,Try.ntmps27
   go_wp2_with (first | (go_at_call 72; (refine (NJ H.out OK.out (by omega)).mono ?_); (rintro e w1 ⟨rfl,h1,hat⟩); (have H1:=Lib.hid h1); (have HAT:=Lib.hid hat); (clear h1 hat)) | (go_at_call 73; (refine (F7 H1.out (Jt OK.out (by omega)) (by have:=HAT.out.size; omega)).mono ?_); (rintro e w2 ⟨rfl,hE⟩); (have HE:=Lib.hid (BL.drops (Af:=Af) HAT.out H.out.low hE)); (clear hE)))
   all_goals (go_ret; exact ⟨rfl,HE.out⟩)
 ·have hE:JJ L = 110:=by simp [JJ,hp]
  have hL:ET L = L:=by simp [ET,hp]
  rw [hE,hL]
  clear hE hL
  go_enter Try.func27,Try.ntmps27
  go_wp2
  all_goals (go_ret; exact ⟨rfl,Il.same H.out⟩)
end Go.Proofs.Ytnkkgofpifhoeaa.Lk
end
