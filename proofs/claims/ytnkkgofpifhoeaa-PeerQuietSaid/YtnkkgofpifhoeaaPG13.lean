/- What the laws of a pair are proved with: links and pairs in memory, what their methods do, what a pair keeps to (part 13). -/
import Derived.Test.YtnkkgofpifhoeaaPG12
import Derived.Deep.LoopGhost
set_option linter.unusedSimpArgs false
set_option linter.unusedVariables false
set_option maxRecDepth 100000
set_option maxHeartbeats 16000000
namespace Go.Proofs.Ytnkkgofpifhoeaa
theorem pI {p:Prop} (h:p:=by
 go_wp2_with fail
 go_quiet (fail)
 go_wp2_with fail
 all_goals (go_end0; (refine ⟨rfl,?_⟩); (have hL:BX L = L':=by rw [← HF.out]; show (if L'.sent < L'.queue.length ∧ L'.sent < 8 then FW gk (EU L') else L') = L'; rw [if_neg (by rw [KR.out]; omega)]); (rw [hL]); exact BL.below hB ⟨o',H1.out,H2.out,H3.out⟩ (BH (Below.refl _ _) _))):p:=h
theorem pJ {p:Prop} (h:p:=by
 show FW (gk - 1 + 1) (EU L') = if L'.sent < L'.queue.length ∧ L'.sent < 8 then FW (gk - 1 + 1) (EU L') else L'
 rw [if_pos (by rw [KR.out]; omega)]):p:=h
theorem pK {p:Prop} (h:p:=by
 rcases hk with (hk | hk) | hk | hk
 ·exact .inl (HOW.out k (.inl hk))
 ·exact .inr hk
 ·exact .inl (HOW.out k (.inr (.inl hk)))
 ·exact .inl (HOW.out k (.inr (.inr hk)))):p:=h
end Go.Proofs.Ytnkkgofpifhoeaa
section
namespace Go.Proofs.Ytnkkgofpifhoeaa.Lk
open Go.RowKit Go.Proofs.Ytnkkgofpifhoeaa.Base Go.Proofs.Ytnkkgofpifhoeaa.Steps Go.Proofs.YtnkkgofpifhoeaaW.PrintWords Go.Proofs.YtnkkgofpifhoeaaW.PrintLast
theorem Ju:(Try.prog.info? 5).map (fun i => (i.zero,i.size,i.bytes)) = some (some (.int .u8 0),1,1):=by kernel_rfl
theorem BL.Zn {w w2 w':World} {B g:Nat} {Af Ac:Nat → Prop} {L:Lk} {q:Value} (hq:∀ k,Af k → k < w.heap.size) (hg:g < w.heap.size) (hb:Below w.heap.size w w2) (hB:B ≤ w.heap.size) (h:BL w2 B Af (fun k => Ac k ∨ w.heap.size ≤ k ∧ k < w2.heap.size) g L q w'):BL w B Af Ac g L q w':=by
 obtain ⟨o,h1,h2,h3⟩:=h
 have hs:=hb.size
 have hs2:=h2.1
 refine ⟨o,⟨h1.blk,h1.queue,Kd.Az h1.out (fun k hk => ?_),h1.low,fun k hk ho => ?_,fun k hk => ?_⟩,(Kept.of_below hb _).DT h2 (fun k hk => ?_),(hb.mono hB).trans h3⟩
 ·rcases hk with (hk | hk) | hk
  ·exact .inl hk
  ·exact .inr ⟨hk.1,by omega⟩
  ·exact .inr ⟨by omega,hk.2⟩
 ·rcases ho with ho | ho
  ·exact h1.apart k hk (.inl (.inl ho))
  ·have:=hq k hk; omega
 ·rcases hk with hk | hk | hk
  ·exact h1.old k (.inl hk)
  ·exact h1.old k (.inr (.inl (.inl hk)))
  ·exact ⟨hk.2,by omega⟩
 ·rcases hk with (hk | hk) | hk
  ·exact .inl (.inl hk)
  ·exact .inr hk.1
  ·exact .inl (.inr hk)
def Gw (L:Lk) (i:Int):BJ:=⟨2,L.token,L.AL,L.yours,IntKind.u32.wrap (L.base + IntKind.u32.wrap i),L.expected,0,0,0,0,L.queue.getD i.toNat []⟩
theorem L8 {w:World} {B g:Nat} {Af Ac:Nat → Prop} {L:Lk} {q o:Value} (h:At w B Af Ac g L q o) (hok:L.Ok) (hB:B ≤ w.heap.size) (i:Int) (hi0:0 ≤ i) (hi1:i < L.queue.length) :
  Calls Try.prog 75 #[.pointer (some ⟨g,0,none⟩),.int .i64 i] w fun e w' => e = .returned (.tuple #[]) ∧ BL w B Af Ac g (emit_ L (Gw L i)) q w':=by
 obtain ⟨gq,oq,cq,hq,_⟩:=Kd.Xn h.queue (by omega)
 have Ld:=hok.queue
 have hQ:=h.queue
 rw [hq] at hQ
 obtain ⟨ce,jr,jv,Zo,_⟩:=Kd.Xo hQ [] i hi0 hi1
 obtain ⟨vb,rfl,hRb⟩:=jv
 have hcb:w.cell? ⟨gq,oq + i.toNat,none⟩ = some vb:=by
  have:=Zo 0 _ rfl
  rwa [show Kd.sz bytes = 1 from rfl,Nat.mul_one,Nat.add_zero] at this
 generalize hbd:L.queue.getD i.toNat [] = body at hRb
 have hbl:body.length ≤ 1000:=by
  subst hbd
  rw [List.getD_eq_getElem?_getD,List.getElem?_eq_getElem (by omega)]
  exact hok.rows _ (List.getElem_mem _)
 obtain ⟨Ab,cb,hvb,hlb,pM⟩:=Kd.Ic hRb
 subst hvb
 have hgl:g < w.heap.size:=AU h.blk
 have ht:=hok.base
 have H0:=Lib.hid h
 have OK:=Lib.hid hok
 have XJ:=Lib.hid pM
 have ZH:=Lib.hid hbl
 have JU:=Lib.hid hbd
 have HQ:=Lib.hid hq
 have hin:i ≤ 63:=by omega
 have jw:=Lib.hid Ld
 clear h hok hQ pM hRb hlb hbl hbd jr Zo hq Ld
 generalize hnl:L.queue.length = nl at hi1
 have pO:=Lib.hid hnl
 clear hnl
 go_enter Try.func75,Try.ntmps75
 have hSS:w.drew.heap[g]? = some (.cells (row L (.slice (some ⟨gq,oq,none⟩) nl cq) o) 131 (0,0)) ∧ w.drew.cell? ⟨gq,oq + i.toNat,none⟩ = some (.slice Ab body.length cb):=⟨H0.out.blk.trans (by rw [HQ.out,pO.out]),hcb⟩
 have hbd:Below w.heap.size w w.drew:=Aj (Below.refl _ _)
 have hsz:w.drew.heap.size = w.heap.size:=rfl
 clear hcb
 refine Aw (n:=34) (S:=fun w' => w'.heap[g]? = some (.cells (row L (.slice (some ⟨gq,oq,none⟩) nl cq) o) 131 (0,0)) ∧ w'.cell? ⟨gq,oq + i.toNat,none⟩ = some (.slice Ab body.length cb)) (ds:=[33]) uA (by kernel_rfl) rfl rfl (hSS) (fun hHeld => ?_)
 generalize w.drew = w2 at hbd hsz hHeld ⊢
 have NL:=Lib.hid hbd
 have V4:=Lib.hid hsz
 clear hbd hsz
 refine pu 0 4 uB ?_
 refine pu 1 5 uC ?_
 refine pu 2 6 uD ?_
 refine pu 3 7 uF ?_
 refine tk 4 8 uG hHeld ?_ (hf:=by intro w' s0; have hc2:w'.cell? ⟨g,2,none⟩ = some (.int .u32 L.token):=(AA s0.1 2).trans rfl; clear s0; go_simp; with_reducible rfl)
 refine pu 5 9 uH ?_
 refine pu 6 10 uI ?_
 refine pu 7 11 uJ ?_
 refine tk 8 12 uK hHeld ?_ (hf:=by intro w' s0; have hc3:w'.cell? ⟨g,3,none⟩ = some (.int .u32 L.AL):=(AA s0.1 3).trans rfl; clear s0; go_simp; with_reducible rfl)
 refine pu 9 13 uM ?_
 refine pu 10 14 uN ?_
 refine pu 11 15 M2a ?_
 refine tk 12 16 uO hHeld ?_ (hf:=by intro w' s0; have hc4:w'.cell? ⟨g,4,none⟩ = some (.int .u32 L.yours):=(AA s0.1 4).trans rfl; clear s0; go_simp; with_reducible rfl)
 refine pu 13 17 uP ?_
 refine pu 14 18 uQ ?_
 refine pu 15 19 uS ?_
 refine tk 16 20 uT hHeld ?_ (hf:=by intro w' s0; have hc8:w'.cell? ⟨g,8,none⟩ = some (.int .u32 L.base):=(AA s0.1 8).trans rfl; clear s0; go_simp; with_reducible rfl)
 refine pu 17 21 uU ?_
 refine pu 18 22 uV ?_
 refine pu 19 23 uX ?_
 refine pu 20 24 uY ?_
 refine pu 21 25 uZ ?_
 refine pu 22 26 uf ?_
 refine tk 23 27 ug hHeld ?_ (hf:=by intro w' s0; have Hu:w'.cell? ⟨g,9,none⟩ = some (.int .u32 L.expected):=(AA s0.1 9).trans rfl; clear s0; go_simp; with_reducible rfl)
 refine pu 24 28 uh ?_
 refine pu 25 29 uj ?_
 refine pu 26 30 uk ?_
 refine tk 27 31 um hHeld ?_ (hf:=by intro w' s0; have hc6:w'.cell? ⟨g,6,none⟩ = some (.slice (some ⟨gq,oq,none⟩) nl cq):=(AA s0.1 6).trans rfl; clear s0; go_simp; with_reducible rfl)
 refine pu 28 32 uo ?_
 refine pu 29 33 uq ?_
 refine tk 30 34 uu hHeld ?_ (hf:=by intro w' s0; have hcb:=s0.2; clear s0; go_simp; rfl)
 refine on 31 (some 35) uw fun K hK => ?_
 refine Kd.FD (Kd.int .u8) (Rr:=fun x cs => cs = [Value.int .u8 x]) (w0:=w) B (by rfl) (.const (.slice none 0 0)) (.tmp 34) 22 5 (.int .u8 0) 1 rfl Try.underlying22 Ju rfl (by decide) (by decide) (.slice none 0 0) [] body Ab body.length cb (fun k => w2.heap.size ≤ k) (fun _ => False) rfl rfl (Kd.Cc _ _ _ _ _) (Kd.BQ XJ.out NL.out) (fun _ _ hx => hx) (fun _ hf => hf.elim) (fun k hk => hk) (NL.out.mono hB) (by have:=V4.out; omega) (by have:=ZH.out; simp; omega) ?_
 intro v1 w3 hR hbl hg _
 obtain ⟨A1,c1,hv1⟩:=Kd.Am hR
 subst hv1
 have hbg:Below w2.heap.size w2 w3:=⟨hg.os,hg.tape,hg.output,hg.size,fun k hk => hg.block k hk (by simp [Value.ownBlock])⟩
 have hb3:Below w.heap.size w w3:=NL.out.trans (hbg.mono NL.out.size)
 have HB3:=Lib.hid hb3
 have HR3:=Lib.hid (show (Kd.int .u8).R 5 w3 B (fun k => w2.heap.size ≤ k) _ body from hR)
 have hS3:=(⟨(hbg.block g (AU hHeld.1)).trans hHeld.1,Kd.Q3 hbg.block hHeld.2⟩:w3.heap[g]? = some (.cells (row L (.slice (some ⟨gq,oq,none⟩) nl cq) o) 131 (0,0)) ∧ w3.cell? ⟨gq,oq + i.toNat,none⟩ = some (.slice Ab body.length cb))
 clear hR hbl hg hbg hb3 hHeld
 refine hK.out _ _ hS3 (fun hHeld => ?_)
 clear hK K hS3
 refine nm 35 ?_
 have h3:=H0.out.below HB3.out
 have h3':At w3 B Af (fun k => Ac k ∨ w.heap.size ≤ k ∧ k < w3.heap.size) g L q o:=⟨h3.blk,h3.queue,Kd.Az h3.out (fun _ hk => .inl hk),h3.low,fun k hk ho => ho.elim (h3.apart k hk) (fun hn => by have:=(H0.out.old k (.inl hk)).1; omega),fun k hk => (hk.elim (fun x => h3.old k (.inl x)) (fun x => x.elim (fun y => h3.old k (.inr y)) (fun hn => ⟨hn.2,by omega⟩)))⟩
 have hRb:(Kd.int .u8).R 5 w3 B (fun k => w2.heap.size ≤ k ∧ k < w3.heap.size) (.slice A1 ([] ++ body).length c1) body:=Kd.Az (Kd.CW HR3.out) (fun k hk => ⟨hk.1,hk.2.2.1⟩)
 have Zp:pkt.M w3 B (fun k => w2.heap.size ≤ k ∧ k < w3.heap.size) (⟨2,L.token,L.AL,L.yours,IntKind.u32.wrap (L.base + IntKind.u32.wrap i),L.expected,0,0,0,0,body⟩:BJ) (cells (⟨2,L.token,L.AL,L.yours,IntKind.u32.wrap (L.base + IntKind.u32.wrap i),L.expected,0,0,0,0,body⟩:BJ) (.slice A1 ([] ++ body).length c1)):=F5.2 ⟨_,rfl,hRb⟩
 have hop:∀ k,(w2.heap.size ≤ k ∧ k < w3.heap.size) → (Ac k ∨ w.heap.size ≤ k ∧ k < w3.heap.size):=fun k hk => .inr ⟨V4.out ▸ hk.1,hk.2⟩
 have V8:=Lib.hid (Ec (⟨2,L.token,L.AL,L.yours,IntKind.u32.wrap (L.base + IntKind.u32.wrap i),L.expected,0,0,0,0,body⟩:BJ) (.slice A1 ([] ++ body).length c1) h3' OK.out (Nat.le_trans hB HB3.out.size) Zp hop)
 clear h3 h3' hRb Zp hop
 refine pu 32 36 uy ?_ (hy:=by intro w'; have DZ:=Try.underlying27; go_simp; rfl)
 refine la 33 (some 37) uz fun K hK => ?_
 refine BK Try.func80 (by kernel_rfl) rfl #[.pointer (some ⟨g,0,none⟩),.agg #[.int .i64 2,.int .u32 L.token,.int .u32 L.AL,.int .u32 L.yours,.int .u32 (IntKind.u32.wrap (L.base + IntKind.u32.wrap i)),.int .u32 L.expected,.int .u32 0,.int .u32 0,.complex .f64 0 0,.slice A1 ([] ++ body).length c1]] (by rfl) rfl rfl (by (try simp only [List.map_toArray,List.map_cons,List.map_nil]); first | done | rfl) ?_
 refine V8.out.mono ?_
 rintro e w9 ⟨rfl,hE⟩
 have HE:=Lib.hid (BL.Zn (fun k hk => (H0.out.old k (.inl hk)).1) hgl HB3.out hB hE)
 clear hE
 refine ⟨_,rfl,?_⟩
 refine hK.out _ _ ?_
 clear hK K
 refine BN (by kernel_rfl) ?_
 go_wp2
 go_end0
 have hP:Gw L i = (⟨2,L.token,L.AL,L.yours,IntKind.u32.wrap (L.base + IntKind.u32.wrap i),L.expected,0,0,0,0,body⟩:BJ):=by unfold Gw; rw [JU.out]
 rw [hP]
 exact ⟨rfl,HE.out⟩
def EU (L:Lk):Lk:=emit_ { L with idle:=if L.sent = 0 then 0 else L.idle,sent:=L.sent + 1 } (Gw L L.sent)
def FW:Nat → Lk → Lk
 | 0,L => L
 | n + 1,L => if L.sent < L.queue.length ∧ L.sent < 8 then FW n (EU L) else L
def BX (L:Lk):Lk:=FW ((8 - L.sent).toNat + 1) L
theorem BL.same {w:World} {B g:Nat} {Af Ac:Nat → Prop} {L:Lk} {q o:Value} (h:At w B Af Ac g L q o):BL w B Af Ac g L q w :=
 ⟨o,⟨h.blk,h.queue,Kd.Az h.out (fun _ hk => .inl hk),h.low,fun k hk ho => ho.elim (h.apart k hk) (fun hn => by omega),fun k hk => (hk.elim (fun x => h.old k (.inl x)) (fun x => x.elim (fun y => h.old k (.inr y)) (fun hn => by omega)))⟩,Kept.refl _ _,Below.refl _ _⟩
theorem BL.below {w w' w2:World} {B g:Nat} {Af Ac:Nat → Prop} {L:Lk} {q:Value} (hB:B ≤ w.heap.size) (h:BL w B Af Ac g L q w') (hb:Below w'.heap.size w' w2):BL w B Af Ac g L q w2:=by
 obtain ⟨o,a,k1,b1⟩:=h
 have hs:=k1.1
 have hs2:=hb.size
 have a2:=a.below hb
 refine ⟨o,⟨a2.blk,a2.queue,Kd.Az a2.out (fun k hk => hk.elim (fun x => .inl x) (fun x => .inr ⟨x.1,by omega⟩)),a2.low,fun k hk ho => ?_,fun k hk => ?_⟩,k1.DT (Kept.of_below hb (fun k => Ac k ∨ k = g)) (fun k hk => .inl hk),b1.trans (hb.mono (by omega))⟩
 ·rcases ho with ho | ho
  ·exact a.apart k hk (.inl ho)
  ·by_cases hkw:k < w'.heap.size
   ·exact a.apart k hk (.inr ⟨ho.1,hkw⟩)
   ·exact hkw (a.old k (.inl hk)).1
 ·rcases hk with hk | hk | hk
  ·exact a2.old k (.inl hk)
  ·exact a2.old k (.inr (.inl hk))
  ·have:=AU a.blk
   by_cases hkw:k < w'.heap.size
   ·exact ⟨hk.2,(a.old k (.inr (.inr ⟨hk.1,hkw⟩))).2⟩
   ·exact ⟨hk.2,by omega⟩
theorem BL.chain {w wr wk w':World} {B g:Nat} {Af Ac:Nat → Prop} {L:Lk} {q:Value} (hq:∀ k,Af k → k < w.heap.size) (hg:g < w.heap.size) (hBg:B ≤ g) (h2:Kept w wr (fun k => Ac k ∨ k = g)) (h3:Below B w wr) (hat:Go.Proofs.Ytnkkgofpifhoeaa.Steps.At g wr wk) (h:BL wk B Af (fun k => Ac k ∨ w.heap.size ≤ k ∧ k < wr.heap.size) g L q w'):BL w B Af Ac g L q w':=by
 obtain ⟨o,a,k1,b1⟩:=h
 have hs:=h2.1
 have hs2:=k1.1
 rw [hat.size] at a hs2
 refine ⟨o,⟨a.blk,a.queue,Kd.Az a.out (fun k hk => ?_),a.low,fun k hk ho => ?_,fun k hk => ?_⟩,(h2.DT (EE hat) (fun k hk => .inl (.inr hk))).DT k1 (fun k hk => ?_),h3.trans ((hat.below (Below.refl _ _) hBg).trans b1)⟩
 ·rcases hk with (hk | hk) | hk
  ·exact .inl hk
  ·exact .inr ⟨hk.1,by omega⟩
  ·exact .inr ⟨by omega,hk.2⟩
 ·rcases ho with ho | ho
  ·exact a.apart k hk (.inl (.inl ho))
  ·have:=hq k hk; omega
 ·rcases hk with hk | hk | hk
  ·exact a.old k (.inl hk)
  ·exact a.old k (.inr (.inl (.inl hk)))
  ·exact ⟨hk.2,by omega⟩
 ·rcases hk with (hk | hk) | hk
  ·exact .inl (.inl hk)
  ·exact .inr hk.1
  ·exact .inl (.inr hk)
theorem Je {L:Lk} (h:L.Ok) (hd:L.sent < L.queue.length) (h8:L.sent < 8) (d:Int) (hdd:0 ≤ d ∧ d ≤ 1000):({ L with idle:=d,sent:=L.sent + 1 }:Lk).Ok:=by
 have:=h.sent
 exact ⟨h.own,h.phase,h.token,h.AL,h.yours,h.queue,h.rows,⟨by show 0 ≤ L.sent + 1; omega,by show L.sent + 1 ≤ (L.queue.length:Int); omega,by show L.sent + 1 ≤ 8; omega⟩,h.base,h.expected,hdd,h.out⟩
theorem IP {L:Lk} (h:L.Ok) (hd:L.sent < L.queue.length) (h8:L.sent < 8):(EU L).Ok:=by
 refine Lu (Je h hd h8 _ ?_) _
 split
 ·omega
 ·exact h.idle
theorem RD (L:Lk) (p:BJ):(emit_ L p).sent = L.sent:=by unfold emit_; split <;> rfl
theorem Io (L:Lk):(EU L).sent = L.sent + 1:=RD _ _
def FR (w:World) (B:Nat) (Af Ac:Nat → Prop) (g:Nat) (L:Lk) (q:Value) (n:Nat) (wr:World):Prop:=∃ L':Lk,n = (8 - L'.sent).toNat ∧ FW (n + 1) L' = BX L ∧ L'.Ok ∧ BL w B Af Ac g L' q wr
theorem Jf {w:World} {B g:Nat} {Af Ac:Nat → Prop} {L:Lk} {q o:Value} (h:At w B Af Ac g L q o) (hok:L.Ok) (hB:B ≤ w.heap.size) :
  Calls Try.prog 74 #[.pointer (some ⟨g,0,none⟩)] w fun e w' => e = .returned (.tuple #[]) ∧ BL w B Af Ac g (BX L) q w':=by
 have H:=Lib.hid h
 have OK:=Lib.hid hok
 clear h hok
 go_enter Try.func74,Try.ntmps74
 go_wp2_with fail
 go_loopg [] ((8 - L.sent).toNat) (fun n wr => FR w B Af Ac g L q n wr)
 case atStart => exact ⟨L,rfl,rfl,OK.out,BL.same H.out⟩
 case round =>
  obtain ⟨L',hn,hf,hok',o',h1,h2,h3⟩:=hrel
  obtain ⟨A6,c6,hq6,Kr⟩:=Kd.FT h1.queue
  have Ih:wr.cell? ⟨g,7,none⟩ = some (.int .i64 L'.sent):=(AA h1.blk 7).trans rfl
  have hc6:wr.cell? ⟨g,6,none⟩ = some (.slice A6 L'.queue.length c6):=(AA h1.blk 6).trans (by rw [hq6]; rfl)
  have hs:=hok'.sent
  have Ld:=hok'.queue
  have H1:=Lib.hid h1
  have H2:=Lib.hid h2
  have H3:=Lib.hid h3
  have HF:=Lib.hid hf
  have HN:=Lib.hid hn
  have Zq:=Lib.hid hok'
  clear h1 h2 h3 hf hn hok' hq6 Kr
  generalize hse:L'.sent = se at *
  generalize SS:L'.queue.length = qn at *
  have KR:=Lib.hid hse
  have yM:wr.cell? ⟨g,10,none⟩ = some (.int .i64 L'.idle):=(AA H1.out.blk 10).trans rfl
  have yN:=AB H1.out.blk 10
  have VR:=AB H1.out.blk 7
  clear hse
  by_cases hg1:se < (qn:Int)
  ·have hd1:decide (se < (qn:Int)) = true:=by simp [hg1]
   by_cases hg2:se < 8
   ·skip
    by_cases hz:se = 0
    ·have yO:(se == 0) = true:=by simp [hz]
     have HZ:=Lib.hid hz
     clear hz
     have jy:=Lib.hid (Je Zq.out (by rw [KR.out]; omega) (by rw [KR.out]; omega) 0 (by omega))
     have HI:=Lib.hid (⟨by omega,by omega⟩:0 ≤ se ∧ se < (L'.queue.length:Int))
     have kC:Go.Proofs.Ytnkkgofpifhoeaa.Steps.At g wr wr:=Steps.At.refl _ _
     go_wp2_with fail
     go_quiet (fail)
     go_wp2_with (first | ((with_reducible refine gate_ (.store 3 (.tmp 29) (.const (.int .i64 0))) rfl ?_); (refine AY (fun wz => At wz B Af (fun k => Ac k ∨ w.heap.size ≤ k ∧ k < wr.heap.size) g { L' with idle:=0 } q o' ∧ Go.Proofs.Ytnkkgofpifhoeaa.Steps.At g wr wz) rfl rfl ⟨_,(by first | (go_simp; done) | (go_simp; rfl)),(H1.out.below (BH (Below.refl _ _) _)).F6 10 _ rfl rfl rfl,Steps.At.set (Steps.At.drewN (Steps.At.refl _ _) _) _ _⟩ (fun Bl hF => ?_)); (have K1:=Lib.hid hF); (clear hF); (have kD:World.cell? _ ⟨g,7,none⟩ = some (.int .i64 se):=(AA K1.out.1.blk 7).trans (by rw [← KR.out]; rfl)); (have yP:=AB K1.out.1.blk 7)) | ((with_reducible refine gate_ (.store 3 (.tmp 36) (.tmp 34)) rfl ?_); (refine AY (fun wz => At wz B Af (fun k => Ac k ∨ w.heap.size ≤ k ∧ k < wr.heap.size) g { L' with idle:=0,sent:=L'.sent + 1 } q o' ∧ Go.Proofs.Ytnkkgofpifhoeaa.Steps.At g wr wz) rfl rfl ⟨_,(by have hz1:World.cell? _ ⟨g,7,none⟩ = some _:=(AA K1.out.1.blk 7).trans rfl; have hz2:=AB K1.out.1.blk 7; first | (go_simp; done) | (go_simp; rfl)),K1.out.1.F6 7 _ (by rw [← KR.out]; rfl) rfl rfl,Steps.At.set K1.out.2 _ _⟩ (fun BG hF => ?_)); (have K2:=Lib.hid hF); (clear hF); (have kD:World.cell? _ ⟨g,7,none⟩ = some (.int .i64 (se + 1)):=(AA K2.out.1.blk 7).trans (by rw [← KR.out]; rfl))) | (go_at_call 75; (refine (L8 (i:=se) K2.out.1 jy.out (Nat.le_trans hB (by rw [K2.out.2.size]; exact H2.out.1)) HI.out.1 HI.out.2).mono ?_); (rintro e w9 ⟨rfl,hE⟩); (have HE:=Lib.hid (BL.chain (fun k hk => (H.out.old k (.inl hk)).1) (AU H.out.blk) H.out.low H2.out H3.out K2.out.2 hE)); (clear hE)))
     go_roundg (gk - 1)
     case measure => have:=HN.out; omega
     case rel =>
      refine ⟨EU L',by rw [Io,KR.out]; have:=HN.out; omega,?_,IP Zq.out (by rw [KR.out]; omega) (by rw [KR.out]; omega),?_⟩
      ·rw [← HF.out,show gk = gk - 1 + 1 by have:=HN.out; omega]
       exact pJ
      ·have e:=HE.out
       rw [show ({ L' with idle:=0,sent:=L'.sent + 1 }:Lk) = { L' with idle:=if L'.sent = 0 then 0 else L'.idle,sent:=L'.sent + 1 } by rw [if_pos (KR.out.trans HZ.out)]] at e
       rw [← KR.out] at e
       exact e
    ·have yO:(se == 0) = false:=by simp [hz]
     have HZ:=Lib.hid hz
     clear hz
     have jy:=Lib.hid (Je Zq.out (by rw [KR.out]; omega) (by rw [KR.out]; omega) L'.idle Zq.out.idle)
     have HI:=Lib.hid (⟨by omega,by omega⟩:0 ≤ se ∧ se < (L'.queue.length:Int))
     have kC:Go.Proofs.Ytnkkgofpifhoeaa.Steps.At g wr wr:=Steps.At.refl _ _
     go_wp2_with fail
     go_quiet (fail)
     go_wp2_with (first | ((with_reducible refine gate_ (.store 3 (.tmp 36) (.tmp 34)) rfl ?_); (refine AY (fun wz => At wz B Af (fun k => Ac k ∨ w.heap.size ≤ k ∧ k < wr.heap.size) g { L' with sent:=L'.sent + 1 } q o' ∧ Go.Proofs.Ytnkkgofpifhoeaa.Steps.At g wr wz) rfl rfl ⟨_,(by first | (go_simp; done) | (go_simp; rfl)),(H1.out.below (BH (Below.refl _ _) _)).F6 7 _ (by rw [← KR.out]; rfl) rfl rfl,Steps.At.set (Steps.At.drewN (Steps.At.refl _ _) _) _ _⟩ (fun BG hF => ?_)); (have K2:=Lib.hid hF); (clear hF); (have kD:World.cell? _ ⟨g,7,none⟩ = some (.int .i64 (se + 1)):=(AA K2.out.1.blk 7).trans (by rw [← KR.out]; rfl))) | (go_at_call 75; (refine (L8 (i:=se) K2.out.1 jy.out (Nat.le_trans hB (by rw [K2.out.2.size]; exact H2.out.1)) HI.out.1 HI.out.2).mono ?_); (rintro e w9 ⟨rfl,hE⟩); (have HE:=Lib.hid (BL.chain (fun k hk => (H.out.old k (.inl hk)).1) (AU H.out.blk) H.out.low H2.out H3.out K2.out.2 hE)); (clear hE)))
     go_roundg (gk - 1)
     case measure => have:=HN.out; omega
     case rel =>
      refine ⟨EU L',by rw [Io,KR.out]; have:=HN.out; omega,?_,IP Zq.out (by rw [KR.out]; omega) (by rw [KR.out]; omega),?_⟩
      ·rw [← HF.out,show gk = gk - 1 + 1 by have:=HN.out; omega]
       exact pJ
      ·have e:=HE.out
       rw [show ({ L' with sent:=L'.sent + 1 }:Lk) = { L' with idle:=if L'.sent = 0 then 0 else L'.idle,sent:=L'.sent + 1 } by rw [if_neg (fun h => HZ.out (KR.out.symm.trans h))]] at e
       rw [← KR.out] at e
       exact e
   ·have hd2:decide (se < 8) = false:=by simp [hg2]
    exact pI
  ·have hd1:decide (se < (qn:Int)) = false:=by simp [hg1]
   exact pI
def End (w:World) (B:Nat) (own:Nat → Prop) (g:Nat) (L:Lk):Prop:=∃ Af Ac q o,At w B Af Ac g L q o ∧ ∀ k,holds Af Ac g k → own k
def Bg (w:World) (B:Nat) (own:Nat → Prop) (g:Nat) (L:Lk) (w':World):Prop :=
 End w' B (fun k => own k ∨ w.heap.size ≤ k ∧ k < w'.heap.size) g L ∧ Kept w w' own ∧ Below B w w'
theorem End.mono {w:World} {B g:Nat} {own own':Nat → Prop} {L:Lk} (h:End w B own g L) (hm:∀ k,own k → own' k):End w B own' g L:=by
 obtain ⟨a,b,q,o,h1,h2⟩:=h
 exact ⟨a,b,q,o,h1,fun k hk => hm k (h2 k hk)⟩
theorem End.kept {w w1:World} {B g:Nat} {own S:Nat → Prop} {L:Lk} (h:End w B own g L) (hk:Kept w w1 S) (hd:∀ k,own k → ¬ S k):End w1 B own g L:=by
 obtain ⟨a,b,q,o,h1,h2⟩:=h
 exact ⟨a,b,q,o,h1.kept hk (fun k hh => hd k (h2 k hh)),h2⟩
theorem Bg.same {w:World} {B g:Nat} {own:Nat → Prop} {L:Lk} (h:End w B own g L):Bg w B own g L w:=⟨h.mono (fun _ hk => .inl hk),Kept.refl _ _,Below.refl _ _⟩
theorem Bg.trans {w w1 w2:World} {B g:Nat} {own:Nat → Prop} {L L2:Lk} (h:Bg w B own g L w1) (h2:Bg w1 B (fun k => own k ∨ w.heap.size ≤ k ∧ k < w1.heap.size) g L2 w2):Bg w B own g L2 w2:=by
 obtain ⟨a,b,c⟩:=h
 obtain ⟨a2,b2,c2⟩:=h2
 have h1:=b.1
 have h3:=b2.1
 refine ⟨a2.mono (fun k hk => ?_),b.DT b2 (fun k hk => ?_),c.trans c2⟩
 ·rcases hk with (hk | hk) | hk
  ·exact .inl hk
  ·exact .inr ⟨hk.1,by omega⟩
  ·exact .inr ⟨by omega,hk.2⟩
 ·rcases hk with hk | hk
  ·exact .inl hk
  ·exact .inr hk.1
theorem Bg.below {w w1 w2:World} {B g:Nat} {own:Nat → Prop} {L:Lk} (h:Bg w B own g L w1) (hB:B ≤ w.heap.size) (hb:Below w1.heap.size w1 w2):Bg w B own g L w2:=by
 have h1:=h.2.1.1
 refine h.trans ⟨(h.1.kept (Kept.of_below hb (fun _ => False)) (fun _ _ hf => hf)).mono (fun _ hk => .inl hk),Kept.of_below hb _,hb.mono (by omega)⟩
theorem BL.turns {w w':World} {B g:Nat} {Af Ac own:Nat → Prop} {L:Lk} {q:Value} (ho:∀ k,holds Af Ac g k → own k) (h:BL w B Af Ac g L q w'):Bg w B own g L w':=by
 obtain ⟨o,a,k1,b1⟩:=h
 refine ⟨⟨_,_,q,o,a,fun k hk => ?_⟩,k1.mono (fun k hk => ho k (.inr hk)),b1⟩
 rcases hk with hk | (hk | hk) | hk
 ·exact .inl (ho k (.inl hk))
 ·exact .inl (ho k (.inr (.inl hk)))
 ·exact .inr hk
 ·exact .inl (ho k (.inr (.inr hk)))
theorem Il.turns {w w':World} {B g:Nat} {Af Ac own:Nat → Prop} {L:Lk} (ho:∀ k,holds Af Ac g k → own k) (h:Il w B Af Ac g L w'):Bg w B own g L w':=by
 obtain ⟨Gv,q,hqq,o,a,k1,b1⟩:=h
 refine ⟨⟨_,_,q,o,a,fun k hk => ?_⟩,k1.mono (fun k hk => ho k (.inr hk)),b1⟩
 rcases hk with hk | (hk | hk) | hk
 ·exact .inl (ho k (.inl (hqq k hk)))
 ·exact .inl (ho k (.inr (.inl hk)))
 ·exact .inr hk
 ·exact .inl (ho k (.inr (.inr hk)))
def Eg (L:Lk) (n:Nat):Int:=if L.phase = 2 then (if n = 0 ∨ 1000 < n then 112 else if 64 ≤ L.queue.length then 113 else 0) else 110
def F8 (L:Lk) (body:List Int):Lk:=if Eg L body.length = 0 then BX { L with queue:=L.queue ++ [body] } else L
theorem info22:(Try.prog.info? 22).map (fun i => (i.zero,i.size,i.bytes)) = some (some (.slice none 0 0),1,24):=by kernel_rfl
theorem UF {L:Lk} (h:L.Ok) {body:List Int} (hl:body.length ≤ 1000) (hq:L.queue.length < 64):({ L with queue:=L.queue ++ [body] }:Lk).Ok:=by
 have:=h.sent
 refine ⟨h.own,h.phase,h.token,h.AL,h.yours,by show (L.queue ++ [body]).length ≤ 64; simp; omega,fun r hr => ?_,⟨this.1,by show L.sent ≤ ((L.queue ++ [body]).length:Int); simp; omega,this.2.2⟩,h.base,h.expected,h.idle,h.out⟩
 rcases List.mem_append.1 hr with hr | hr
 ·exact h.rows r hr
 ·rw [List.mem_singleton.1 hr]; exact hl
theorem UG (n:Nat) {L:Lk} (h:L.Ok):(FW n L).Ok:=by
 induction n generalizing L with
 | zero => exact h
 | succ n ih =>
  unfold FW
  split
  ·rename_i hc; exact ih (IP h hc.1 hc.2)
  ·exact h
theorem QN {L:Lk} (h:L.Ok):(BX L).Ok:=UG _ h
theorem RF {w:World} {B g:Nat} {Af Ac:Nat → Prop} {L:Lk} {q o:Value} (h:At w B Af Ac g L q o) (hok:L.Ok) (hB:B ≤ w.heap.size) (body:List Int) (Ab:Option Addr) (cb:Nat) (hC:(Kd.int .u8).C w Ab body.length body) (hp:¬ L.phase = 2) :
  Calls Try.prog 30 #[.pointer (some ⟨g,0,none⟩),.slice Ab body.length cb] w fun e w' => e = .returned (.int .i64 110) ∧ w = w':=by
 have hc1:w.cell? ⟨g,1,none⟩ = some (.int .i64 L.phase):=(AA h.blk 1).trans rfl
 clear h hok hC
 generalize L.phase = ph at *
 go_enter Try.func30,Try.ntmps30
 go_wp2
 all_goals (go_ret; exact ⟨rfl,rfl⟩)
theorem RG {w:World} {B g:Nat} {Af Ac:Nat → Prop} {L:Lk} {q o:Value} (h:At w B Af Ac g L q o) (hok:L.Ok) (hB:B ≤ w.heap.size) (body:List Int) (Ab:Option Addr) (cb:Nat) (hC:(Kd.int .u8).C w Ab body.length body) (hp:L.phase = 2) (hl:body.length = 0 ∨ 1000 < body.length) :
  Calls Try.prog 30 #[.pointer (some ⟨g,0,none⟩),.slice Ab body.length cb] w fun e w' => e = .returned (.int .i64 112) ∧ ∃ m,w' = w.drewN m:=by
 have hc1:w.cell? ⟨g,1,none⟩ = some (.int .i64 2):=(AA h.blk 1).trans (by rw [← hp]; rfl)
 clear h hok hC hp
 generalize body.length = n at *
 by_cases hz:n = 0
 ·subst hz
  clear hl
  go_enter Try.func30,Try.ntmps30
  go_wp2_with fail
  try go_quiet (fail)
  go_wp2
  all_goals (go_ret; first | exact ⟨rfl,0,rfl⟩ | exact ⟨rfl,_,rfl⟩)
 ·have hd:((n:Int) == 0) = false:=by simp; omega
  have hd2:decide ((1000:Int) < n) = true:=by simp; omega
  have hd3:decide ((n:Int) > 1000) = true:=by simp; omega
  go_enter Try.func30,Try.ntmps30
  go_wp2_with fail
  try go_quiet (fail)
  go_wp2
  all_goals (go_ret; first | exact ⟨rfl,0,rfl⟩ | exact ⟨rfl,_,rfl⟩)
theorem RH {w:World} {B g:Nat} {Af Ac:Nat → Prop} {L:Lk} {q o:Value} (h:At w B Af Ac g L q o) (hok:L.Ok) (hB:B ≤ w.heap.size) (body:List Int) (Ab:Option Addr) (cb:Nat) (hC:(Kd.int .u8).C w Ab body.length body) (hp:L.phase = 2) (hl:¬ (body.length = 0 ∨ 1000 < body.length)) (hq:64 ≤ L.queue.length) :
  Calls Try.prog 30 #[.pointer (some ⟨g,0,none⟩),.slice Ab body.length cb] w fun e w' => e = .returned (.int .i64 113) ∧ ∃ m,w' = w.drewN m:=by
 have hc1:w.cell? ⟨g,1,none⟩ = some (.int .i64 2):=(AA h.blk 1).trans (by rw [← hp]; rfl)
 obtain ⟨A6,c6,hq6,Kr⟩:=Kd.FT h.queue
 have hc6:w.cell? ⟨g,6,none⟩ = some (.slice A6 L.queue.length c6):=(AA h.blk 6).trans (by rw [hq6]; rfl)
 clear h hok hC hp hq6 Kr
 generalize body.length = n at *
 generalize L.queue.length = qn at *
 have hd:((n:Int) == 0) = false:=by simp; omega
 have hd2:decide ((1000:Int) < n) = false:=by simp; omega
 have hd3:decide ((n:Int) > 1000) = false:=by simp; omega
 have hd4:decide ((qn:Int) ≥ 64) = true:=by simp; omega
 have hd5:decide ((64:Int) ≤ qn) = true:=by simp; omega
 go_enter Try.func30,Try.ntmps30
 go_wp2_with fail
 try go_quiet (fail)
 go_wp2
 all_goals (go_ret; first | exact ⟨rfl,0,rfl⟩ | exact ⟨rfl,_,rfl⟩)
theorem V9 {w:World} {B g:Nat} {Af Ac:Nat → Prop} {L:Lk} {q o:Value} (h:At w B Af Ac g L q o) (hok:L.Ok) (hB:B ≤ w.heap.size) (body:List Int) (Ab:Option Addr) (cb:Nat) (hC:(Kd.int .u8).C w Ab body.length body) (hp:L.phase = 2) (hl:¬ (body.length = 0 ∨ 1000 < body.length)) (hq:¬ 64 ≤ L.queue.length) {own:Nat → Prop} (ho:∀ k,holds Af Ac g k → own k) :
  Calls Try.prog 30 #[.pointer (some ⟨g,0,none⟩),.slice Ab body.length cb] w fun e w' => e = .returned (.int .i64 0) ∧ Bg w B own g (BX { L with queue:=L.queue ++ [body] }) w':=by
 have hc1:w.cell? ⟨g,1,none⟩ = some (.int .i64 2):=(AA h.blk 1).trans (by rw [← hp]; rfl)
 obtain ⟨A6,c6,hq6,Kr⟩:=Kd.FT h.queue
 have hc6:w.cell? ⟨g,6,none⟩ = some (.slice A6 L.queue.length c6):=(AA h.blk 6).trans (by rw [hq6]; rfl)
 have hgl:g < w.heap.size:=AU h.blk
 subst hq6
 have H0:=Lib.hid h
 have OK:=Lib.hid hok
 have XJ:=Lib.hid hC
 have ZH:=Lib.hid hl
 have jw:=Lib.hid hq
 have HOW:=Lib.hid ho
 clear h hok hC hp Kr ho
 generalize hn:body.length = n at *
 generalize SS:L.queue.length = qn at *
 have HN:=Lib.hid hn
 have Zr:=Lib.hid SS
 clear hn SS
 have hd:((n:Int) == 0) = false:=by simp; omega
 have hd3:decide ((n:Int) > 1000) = false:=by simp; omega
 have hd4:decide ((qn:Int) ≥ 64) = false:=by simp; omega
 go_enter Try.func30,Try.ntmps30
 go_wp2_with fail
 try go_quiet (fail)
 go_wp2_with fail
 have hSS:w.drew.heap[g]? = some (.cells (row L (.slice A6 qn c6) o) 131 (0,0)):=H0.out.blk
 have hbd:Below w.heap.size w w.drew:=Aj (Below.refl _ _)
 have hsz:w.drew.heap.size = w.heap.size:=rfl
 clear hc1 hc6 hd hd3 hd4 hl hq
 refine Aw (n:=12) (S:=fun w' => w'.heap[g]? = some (.cells (row L (.slice A6 qn c6) o) 131 (0,0))) (ds:=[11]) fU (by kernel_rfl) rfl rfl (hSS) (fun hHeld => ?_)
 generalize w.drew = w2 at hbd hsz hHeld ⊢
 have NL:=Lib.hid hbd
 have V4:=Lib.hid hsz
 clear hbd hsz
 refine pu 0 30 fV ?_
 refine pu 1 31 fZ ?_
 refine pu 2 32 gG ?_
 refine pu 3 33 gI ?_
 refine tk 4 34 jX hHeld ?_ (hf:=by intro w' s0; have hc6:w'.cell? ⟨g,6,none⟩ = some (.slice A6 qn c6):=(AA s0 6).trans rfl; clear s0; go_simp; with_reducible rfl)
 refine pu 5 35 jY ?_
 refine on 6 (some 36) jZ fun K hK => ?_
 refine Kd.FD (Kd.int .u8) (Rr:=fun x cs => cs = [Value.int .u8 x]) (w0:=w) B (by rfl) (.const (.slice none 0 0)) (.tmp 35) 22 5 (.int .u8 0) 1 rfl Try.underlying22 Ju rfl (by decide) (by decide) (.slice none 0 0) [] body Ab n cb (fun k => w2.heap.size ≤ k) (fun _ => False) rfl rfl (Kd.Cc _ _ _ _ _) (Kd.BQ (by have:=XJ.out; rwa [← HN.out] at this ⊢) NL.out) (fun _ _ hx => hx) (fun _ hf => hf.elim) (fun k hk => hk) (NL.out.mono hB) (by have:=V4.out; omega) (by have:=ZH.out; have:=HN.out; simp; omega) ?_
 intro v1 w3 hR hbl hg _
 obtain ⟨A1,c1,hv1⟩:=Kd.Am hR
 subst hv1
 have hbg:Below w2.heap.size w2 w3:=⟨hg.os,hg.tape,hg.output,hg.size,fun k hk => hg.block k hk (by simp [Value.ownBlock])⟩
 have hb3:Below w.heap.size w w3:=NL.out.trans (hbg.mono NL.out.size)
 have HB3:=Lib.hid hb3
 have HR3:=Lib.hid (show (Kd.int .u8).R 5 w3 B (fun k => w2.heap.size ≤ k) _ body from hR)
 have hS3:w3.heap[g]? = some (.cells (row L (.slice A6 qn c6) o) 131 (0,0)):=(hbg.block g (AU hHeld)).trans hHeld
 clear hR hbl hg hbg hb3 hHeld
 refine hK.out _ _ hS3 (fun hHeld => ?_)
 clear hK K hS3
 refine nm 36 ?_
 refine on 7 (some 37) jc fun K hK => ?_
 refine Gt (v:=.slice (some ⟨w3.heap.size,0,none⟩) 1 1) (by rfl) rfl (w1:=w3.alloc (.cells #[.slice A1 ([] ++ body).length c1] 22)) ?_ ?_
 ·first | (go_simp; done) | (go_simp; rfl)
 have hb4:=(Below.refl w3.heap.size w3).alloc (Nat.le_refl _) (.cells #[.slice A1 ([] ++ body).length c1] 22)
 have yQ:=Lib.hid hHeld
 refine hK.out _ _ ((hb4.block g (AU hHeld)).trans hHeld) (fun hHeld => ?_)
 clear hK K
 refine nm 37 ?_
 refine on 8 (some 38) gJ fun K hK => ?_
 have hq3:=Kd.Vm H0.out.queue HB3.out
 have hown:∀ k,(Value.slice A6 qn c6).ownBlock = some k → Af k:=fun k hk => Kd.jh H0.out.queue k hk
 have YB:(Kd.int .u8).R 5 w3 B (fun k => w2.heap.size ≤ k ∧ k < w3.heap.size) (.slice A1 ([] ++ body).length c1) body:=Kd.Az (Kd.CW HR3.out) (fun k hk => ⟨hk.1,hk.2.2.1⟩)
 have JV:bytes.M w3 B (fun k => w2.heap.size ≤ k ∧ k < w3.heap.size) body [.slice A1 ([] ++ body).length c1]:=⟨_,rfl,YB⟩
 refine Kd.KP (W:=w3) (w0:=w) bytes B ?hw (.tmp 34) (.tmp 37) 45 22 (.slice none 0 0) 24 ?ho ?ht ?hi ?hz ?hs0 ?hb0 (.slice A6 qn c6) L.queue body [.slice A1 ([] ++ body).length c1] (fun k => Af k ∨ w.heap.size ≤ k) (fun k => w2.heap.size ≤ k ∧ k < w3.heap.size) ?hs ?hx ?hp ?GN ?hf ?HO ?HB ?hb ?hl ?h
 case hw => rfl
 case ho => rfl
 case ht => exact Try.underlying45
 case hi => exact info22
 case hz => rfl
 case hs0 => decide
 case hb0 => decide
 case hs => rfl
 case hx => rfl
 case hp => exact JV
 case GN => exact fun k hk => ⟨.inr (by have:=V4.out; omega),fun he => by have:=(H0.out.old k (.inl (hown k he.symm))).1; have:=V4.out; omega⟩
 case hf => exact fun k hk => .inr (by have:=HB3.out.size; omega)
 case HO => exact Kd.OQ hq3 (fun _ hk => .inl hk)
 case HB => exact HB3.out.mono hB
 case hb => have:=HB3.out.size; omega
 case hl => have:=Zr.out; have:=jw.out; omega
 intro o1 w4 hQ hbl hg _
 obtain ⟨A2,c2,ho1,hlo⟩:=Kd.FT hQ
 generalize (L.queue ++ [body]).length = n1 at ho1
 subst ho1
 have hK4:Kept w w4 Af:=Kept.Fz hg (Kept.of_below HB3.out Af) (fun k hk => .inl (hown k hk))
 have Om:w4.heap[g]? = some (.cells (row L (.slice A6 qn c6) o) 131 (0,0)):=Ai H0.out.blk hK4 (fun ho => (H0.out.old g (.inl ho)).2 rfl)
 have ZI:=Lib.hid hK4
 have VU:=Lib.hid Om
 have yR:=Lib.hid hQ
 have UH:=Lib.hid hbl
 clear hbl hg hown yQ hq3 YB JV hK4 hQ hlo hHeld
 refine hK.out _ _ Om (fun hHeld => ?_)
 clear hK K Om
 refine nm 38 ?_
 refine pu 9 39 gK ?_
 refine pu 10 40 gQ ?_
 refine la 11 none gU fun K hK => ?_
 have hz1:w4.cell? ⟨g,6,none⟩ = some (.slice A6 qn c6):=(AA VU.out 6).trans rfl
 have hz2:=AB VU.out 6
 refine BO (fun wz => At wz B (fun k => Af k ∨ w.heap.size ≤ k ∧ k < w4.heap.size) Ac g { L with queue:=L.queue ++ [body] } (.slice A2 n1 c2) o ∧ wz.heap.size = w4.heap.size ∧ Kept w wz (fun k => Af k ∨ k = g) ∧ Below B w wz) (by rfl) rfl ⟨_,by first | (go_simp; done) | (go_simp; rfl),?_,?_,?_,?_⟩ (fun w5 hF => ?_)
 ·have hs4:=ZI.out.1
  have hgl:=hgl
  refine At.put' VU.out 6 _ rfl (Kd.OQ (Kd.QF yR.out) (fun k hk => hk.1.elim (fun h => .inl h) (fun h => .inr ⟨h,hk.2.2.1⟩))) (Kd.BI H0.out.out ZI.out (fun k ho hq => H0.out.apart k hq ho)) H0.out.low (fun k hk ho => hk.elim (fun h => H0.out.apart k h ho) (fun hn => by have:=(H0.out.old k (.inr ho)).1; omega)) (fun k hk => ?_)
  rcases hk with (hk | hk) | hk
  ·have:=H0.out.old k (.inl hk); exact ⟨by omega,this.2⟩
  ·exact ⟨hk.2,by omega⟩
  ·have:=H0.out.old k (.inr hk); exact ⟨by omega,this.2⟩
 ·simp [World.setCell]
 ·exact (ZI.out.mono (fun k hk => .inl hk)).setCell (p:=⟨g,6,none⟩) (.inl (.inr rfl)) _
 ·exact UH.out.setCell (p:=⟨g,6,none⟩) H0.out.low _
 have HF:=Lib.hid hF
 clear hF hz1 hz2 hHeld
 refine hK.out _ _ ?_
 clear hK K
 refine BN (by kernel_rfl) ?_
 have yS:=Lib.hid (UF OK.out (body:=body) (by have:=ZH.out; have:=HN.out; omega) (by have:=jw.out; have:=Zr.out; omega))
 go_wp2_with (first | (go_at_call 74; (refine (Jf HF.out.1 yS.out (by rw [HF.out.2.1]; exact Nat.le_trans hB ZI.out.1)).mono ?_); (rintro e w9 ⟨rfl,hE⟩); (have HE:=Lib.hid hE); (clear hE)))
 all_goals (go_ret; refine ⟨rfl,?_⟩)
 refine Bg.trans (L:={ L with queue:=L.queue ++ [body] }) ⟨⟨_,_,_,_,HF.out.1,fun k hk => ?_⟩,HF.out.2.2.1.mono (fun k hk => HOW.out k (hk.elim .inl (fun h => .inr (.inr h)))),HF.out.2.2.2⟩ (BL.turns (fun k hk => ?_) HE.out)
 ·rw [HF.out.2.1]
  exact pK
 ·rw [HF.out.2.1]
  exact pK
theorem L9 {w:World} {B g:Nat} {Af Ac:Nat → Prop} {L:Lk} {q o:Value} (h:At w B Af Ac g L q o) (hok:L.Ok) (hB:B ≤ w.heap.size) (body:List Int) (Ab:Option Addr) (cb:Nat) (hC:(Kd.int .u8).C w Ab body.length body) {own:Nat → Prop} (ho:∀ k,holds Af Ac g k → own k) :
  Calls Try.prog 30 #[.pointer (some ⟨g,0,none⟩),.slice Ab body.length cb] w fun e w' => e = .returned (.int .i64 (Eg L body.length)) ∧ Bg w B own g (F8 L body) w':=by
 have same:∀ m,Bg w B own g L (w.drewN m):=fun m => (Bg.same ⟨Af,Ac,q,o,h,ho⟩).below hB (BH (Below.refl _ _) m)
 by_cases hp:L.phase = 2
 ·by_cases hl:body.length = 0 ∨ 1000 < body.length
  ·have hE:Eg L body.length = 112:=by unfold Eg; rw [if_pos hp,if_pos hl]
   have hL:F8 L body = L:=by unfold F8; rw [hE,if_neg (by decide)]
   rw [hE,hL]
   refine (RG h hok hB body Ab cb hC hp hl).mono ?_
   rintro e w' ⟨rfl,m,rfl⟩
   exact ⟨rfl,same m⟩
  ·by_cases hq:64 ≤ L.queue.length
   ·have hE:Eg L body.length = 113:=by unfold Eg; rw [if_pos hp,if_neg hl,if_pos hq]
    have hL:F8 L body = L:=by unfold F8; rw [hE,if_neg (by decide)]
    rw [hE,hL]
    refine (RH h hok hB body Ab cb hC hp hl hq).mono ?_
    rintro e w' ⟨rfl,m,rfl⟩
    exact ⟨rfl,same m⟩
   ·have hE:Eg L body.length = 0:=by unfold Eg; rw [if_pos hp,if_neg hl,if_neg hq]
    have hL:F8 L body = BX { L with queue:=L.queue ++ [body] }:=by unfold F8; rw [hE,if_pos rfl]
    rw [hE,hL]
    exact V9 h hok hB body Ab cb hC hp hl hq ho
 ·have hE:Eg L body.length = 110:=by unfold Eg; rw [if_neg hp]
  have hL:F8 L body = L:=by unfold F8; rw [hE,if_neg (by decide)]
  rw [hE,hL]
  refine (RF h hok hB body Ab cb hC hp).mono ?_
  rintro e w' ⟨rfl,rfl⟩
  exact ⟨rfl,Bg.same ⟨Af,Ac,q,o,h,ho⟩⟩
theorem YC (a b:Int) (w:World):Calls Try.prog 106 #[.int .u32 a,.int .u32 b] w fun e w' => e = .returned (.int .u32 (IntKind.u32.wrap (b - a))) ∧ w = w':=by
 go_enter Try.func106,Try.ntmps106
 go_wp2
 all_goals (go_ret; exact ⟨rfl,rfl⟩)
theorem Eh (a b:Int) (w:World):Calls Try.prog 79 #[.int .u32 a,.int .u32 b] w fun e w' => e = .returned (.int .u32 (IntKind.u32.wrap (b - a))) ∧ w = w':=by
 go_enter Try.func79,Try.ntmps79
 go_wp2_with (go_at_call 106; refine (YC _ _ _).mono ?_; rintro e w1 ⟨rfl,rfl⟩)
 all_goals (go_ret; exact ⟨rfl,rfl⟩)
end Go.Proofs.Ytnkkgofpifhoeaa.Lk
end
