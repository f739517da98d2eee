/- What the laws of a pair are proved with: links and pairs in memory, what their methods do, what a pair keeps to (part 4). -/
import Derived.Test.YtnkkgofpifhoeaaPE03
import GoSem.Core.Float
import Derived.Test.YtnkkgofpifhoeaaProg
import Derived.WalkLawsBesides
import Derived.Outline
import Derived.Scope
import Derived.WalkMore
import Derived.ScopeJumps
set_option linter.unusedSimpArgs false
set_option linter.unusedVariables false
set_option maxRecDepth 100000
set_option maxHeartbeats 16000000
section
namespace Go.Proofs.Ytnkkgofpifhoeaa.Lk
open Go.RowKit Go.Proofs.Ytnkkgofpifhoeaa.Base Go.Proofs.Ytnkkgofpifhoeaa.Steps Go.Proofs.YtnkkgofpifhoeaaW.PrintWords Go.Proofs.YtnkkgofpifhoeaaW.PrintLast
def End (w:World) (B:Nat) (own:Nat → Prop) (g:Nat) (L:Lk):Prop:=∃ Ak Aj q o,At w B Ak Aj g L q o ∧ ∀ k,holds Ak Aj g k → own k
def DC (w:World) (B:Nat) (own:Nat → Prop) (g:Nat) (L:Lk) (w':World):Prop :=
 End w' B (fun k => own k ∨ w.heap.size ≤ k ∧ k < w'.heap.size) g L ∧ Kept w w' own ∧ Below B w w'
theorem End.mono {w:World} {B g:Nat} {own own':Nat → Prop} {L:Lk} (h:End w B own g L) (hm:∀ k,own k → own' k):End w B own' g L:=by
 obtain ⟨a,b,q,o,h1,h2⟩:=h
 exact ⟨a,b,q,o,h1,fun k hk => hm k (h2 k hk)⟩
theorem End.kept {w w1:World} {B g:Nat} {own S:Nat → Prop} {L:Lk} (h:End w B own g L) (hk:Kept w w1 S) (hd:∀ k,own k → ¬ S k):End w1 B own g L:=by
 obtain ⟨a,b,q,o,h1,h2⟩:=h
 exact ⟨a,b,q,o,h1.kept hk (fun k hh => hd k (h2 k hh)),h2⟩
theorem DC.same {w:World} {B g:Nat} {own:Nat → Prop} {L:Lk} (h:End w B own g L):DC w B own g L w:=⟨h.mono (fun _ hk => .inl hk),Kept.refl _ _,Below.refl _ _⟩
theorem DC.trans {w w1 w2:World} {B g:Nat} {own:Nat → Prop} {L L2:Lk} (h:DC w B own g L w1) (h2:DC w1 B (fun k => own k ∨ w.heap.size ≤ k ∧ k < w1.heap.size) g L2 w2):DC w B own g L2 w2:=by
 obtain ⟨a,b,c⟩:=h
 obtain ⟨a2,b2,c2⟩:=h2
 have h1:=b.1
 have h3:=b2.1
 refine ⟨a2.mono (fun k hk => ?_),b.BQ b2 (fun k hk => ?_),c.trans c2⟩
 ·rcases hk with (hk | hk) | hk
  ·exact .inl hk
  ·exact .inr ⟨hk.1,by omega⟩
  ·exact .inr ⟨by omega,hk.2⟩
 ·rcases hk with hk | hk
  ·exact .inl hk
  ·exact .inr hk.1
theorem DC.below {w w1 w2:World} {B g:Nat} {own:Nat → Prop} {L:Lk} (h:DC w B own g L w1) (hB:B ≤ w.heap.size) (hb:Below w1.heap.size w1 w2):DC w B own g L w2:=by
 have h1:=h.2.1.1
 refine h.trans ⟨(h.1.kept (Kept.of_below hb (fun _ => False)) (fun _ _ hf => hf)).mono (fun _ hk => .inl hk),Kept.of_below hb _,hb.mono (by omega)⟩
theorem CJ.turns {w w':World} {B g:Nat} {Ak Aj own:Nat → Prop} {L:Lk} {q:Value} (ho:∀ k,holds Ak Aj g k → own k) (h:CJ w B Ak Aj g L q w'):DC w B own g L w':=by
 obtain ⟨o,a,k1,b1⟩:=h
 refine ⟨⟨_,_,q,o,a,fun k hk => ?_⟩,k1.mono (fun k hk => ho k (.inr hk)),b1⟩
 rcases hk with hk | (hk | hk) | hk
 ·exact .inl (ho k (.inl hk))
 ·exact .inl (ho k (.inr (.inl hk)))
 ·exact .inr hk
 ·exact .inl (ho k (.inr (.inr hk)))
theorem KO.turns {w w':World} {B g:Nat} {Ak Aj own:Nat → Prop} {L:Lk} (ho:∀ k,holds Ak Aj g k → own k) (h:KO w B Ak Aj g L w'):DC w B own g L w':=by
 obtain ⟨Iz,q,hqq,o,a,k1,b1⟩:=h
 refine ⟨⟨_,_,q,o,a,fun k hk => ?_⟩,k1.mono (fun k hk => ho k (.inr hk)),b1⟩
 rcases hk with hk | (hk | hk) | hk
 ·exact .inl (ho k (.inl (hqq k hk)))
 ·exact .inl (ho k (.inr (.inl hk)))
 ·exact .inr hk
 ·exact .inl (ho k (.inr (.inr hk)))
def Bq (L:Lk) (n:Nat):Int:=if L.phase = 2 then (if n = 0 ∨ 1000 < n then 112 else if 64 ≤ L.queue.length then 113 else 0) else 110
def Be (L:Lk) (body:List Int):Lk:=if Bq L body.length = 0 then BL { L with queue:=L.queue ++ [body] } else L
theorem info22:(Try.prog.info? 22).map (fun i => (i.zero,i.size,i.bytes)) = some (some (.slice none 0 0),1,24):=by kernel_rfl
theorem NR {L:Lk} (h:L.Ok) {body:List Int} (hl:body.length ≤ 1000) (hq:L.queue.length < 64):({ L with queue:=L.queue ++ [body] }:Lk).Ok:=by
 have:=h.sent
 refine ⟨h.own,h.phase,h.token,h.AB,h.yours,by show (L.queue ++ [body]).length ≤ 64; simp; omega,fun r hr => ?_,⟨this.1,by show L.sent ≤ ((L.queue ++ [body]).length:Int); simp; omega,this.2.2⟩,h.base,h.expected,h.idle,h.out⟩
 rcases List.mem_append.1 hr with hr | hr
 ·exact h.rows r hr
 ·rw [List.mem_singleton.1 hr]; exact hl
theorem Xz (n:Nat) {L:Lk} (h:L.Ok):(Dq n L).Ok:=by
 induction n generalizing L with
 | zero => exact h
 | succ n ih =>
  unfold Dq
  split
  ·rename_i hc; exact ih (IK h hc.1 hc.2)
  ·exact h
theorem VL {L:Lk} (h:L.Ok):(BL L).Ok:=Xz _ h
theorem WB {w:World} {B g:Nat} {Ak Aj:Nat → Prop} {L:Lk} {q o:Value} (h:At w B Ak Aj g L q o) (hok:L.Ok) (hB:B ≤ w.heap.size) (body:List Int) (Ab:Option Addr) (cb:Nat) (hC:(Kd.int .u8).C w Ab body.length body) (hp:¬ L.phase = 2) :
  Calls Try.prog 30 #[.pointer (some ⟨g,0,none⟩),.slice Ab body.length cb] w fun e w' => e = .returned (.int .i64 110) ∧ w = w':=by
 have hc1:w.cell? ⟨g,1,none⟩ = some (.int .i64 L.phase):=(AA h.blk 1).trans rfl
 clear h hok hC
 generalize L.phase = ph at *
 go_enter Try.func30,Try.ntmps30
 go_wp2
 all_goals (go_ret; exact ⟨rfl,rfl⟩)
theorem WC {w:World} {B g:Nat} {Ak Aj:Nat → Prop} {L:Lk} {q o:Value} (h:At w B Ak Aj g L q o) (hok:L.Ok) (hB:B ≤ w.heap.size) (body:List Int) (Ab:Option Addr) (cb:Nat) (hC:(Kd.int .u8).C w Ab body.length body) (hp:L.phase = 2) (hl:body.length = 0 ∨ 1000 < body.length) :
  Calls Try.prog 30 #[.pointer (some ⟨g,0,none⟩),.slice Ab body.length cb] w fun e w' => e = .returned (.int .i64 112) ∧ ∃ m,w' = w.drewN m:=by
 have hc1:w.cell? ⟨g,1,none⟩ = some (.int .i64 2):=(AA h.blk 1).trans (by rw [← hp]; rfl)
 clear h hok hC hp
 generalize body.length = n at *
 by_cases hz:n = 0
 ·subst hz
  clear hl
  go_enter Try.func30,Try.ntmps30
  go_wp2_with fail
  try go_quiet (fail)
  go_wp2
  all_goals (go_ret; first | exact ⟨rfl,0,rfl⟩ | exact ⟨rfl,_,rfl⟩)
 ·have hd:((n:Int) == 0) = false:=by simp; omega
  have hd2:decide ((1000:Int) < n) = true:=by simp; omega
  have hd3:decide ((n:Int) > 1000) = true:=by simp; omega
  go_enter Try.func30,Try.ntmps30
  go_wp2_with fail
  try go_quiet (fail)
  go_wp2
  all_goals (go_ret; first | exact ⟨rfl,0,rfl⟩ | exact ⟨rfl,_,rfl⟩)
theorem WE {w:World} {B g:Nat} {Ak Aj:Nat → Prop} {L:Lk} {q o:Value} (h:At w B Ak Aj g L q o) (hok:L.Ok) (hB:B ≤ w.heap.size) (body:List Int) (Ab:Option Addr) (cb:Nat) (hC:(Kd.int .u8).C w Ab body.length body) (hp:L.phase = 2) (hl:¬ (body.length = 0 ∨ 1000 < body.length)) (hq:64 ≤ L.queue.length) :
  Calls Try.prog 30 #[.pointer (some ⟨g,0,none⟩),.slice Ab body.length cb] w fun e w' => e = .returned (.int .i64 113) ∧ ∃ m,w' = w.drewN m:=by
 have hc1:w.cell? ⟨g,1,none⟩ = some (.int .i64 2):=(AA h.blk 1).trans (by rw [← hp]; rfl)
 obtain ⟨A6,c6,hq6,GY⟩:=Kd.Gy h.queue
 have hc6:w.cell? ⟨g,6,none⟩ = some (.slice A6 L.queue.length c6):=(AA h.blk 6).trans (by rw [hq6]; rfl)
 clear h hok hC hp hq6 GY
 generalize body.length = n at *
 generalize L.queue.length = qn at *
 have hd:((n:Int) == 0) = false:=by simp; omega
 have hd2:decide ((1000:Int) < n) = false:=by simp; omega
 have hd3:decide ((n:Int) > 1000) = false:=by simp; omega
 have hd4:decide ((qn:Int) ≥ 64) = true:=by simp; omega
 have hd5:decide ((64:Int) ≤ qn) = true:=by simp; omega
 go_enter Try.func30,Try.ntmps30
 go_wp2_with fail
 try go_quiet (fail)
 go_wp2
 all_goals (go_ret; first | exact ⟨rfl,0,rfl⟩ | exact ⟨rfl,_,rfl⟩)
theorem Z57 {p:Prop} (h:p:=by
 rcases hk with (hk | hk) | hk | hk
 ·exact .inl (HOW.out k (.inl hk))
 ·exact .inr hk
 ·exact .inl (HOW.out k (.inr (.inl hk)))
 ·exact .inl (HOW.out k (.inr (.inr hk)))):p:=h
theorem aZ {w:World} {B g:Nat} {Ak Aj:Nat → Prop} {L:Lk} {q o:Value} (h:At w B Ak Aj g L q o) (hok:L.Ok) (hB:B ≤ w.heap.size) (body:List Int) (Ab:Option Addr) (cb:Nat) (hC:(Kd.int .u8).C w Ab body.length body) (hp:L.phase = 2) (hl:¬ (body.length = 0 ∨ 1000 < body.length)) (hq:¬ 64 ≤ L.queue.length) {own:Nat → Prop} (ho:∀ k,holds Ak Aj g k → own k) :
  Calls Try.prog 30 #[.pointer (some ⟨g,0,none⟩),.slice Ab body.length cb] w fun e w' => e = .returned (.int .i64 0) ∧ DC w B own g (BL { L with queue:=L.queue ++ [body] }) w':=by
 have hc1:w.cell? ⟨g,1,none⟩ = some (.int .i64 2):=(AA h.blk 1).trans (by rw [← hp]; rfl)
 obtain ⟨A6,c6,hq6,GY⟩:=Kd.Gy h.queue
 have hc6:w.cell? ⟨g,6,none⟩ = some (.slice A6 L.queue.length c6):=(AA h.blk 6).trans (by rw [hq6]; rfl)
 have hgl:g < w.heap.size:=AQ h.blk
 subst hq6
 have H0:=Lib.hid h
 have OK:=Lib.hid hok
 have V9:=Lib.hid hC
 have FP:=Lib.hid hl
 have yP:=Lib.hid hq
 have HOW:=Lib.hid ho
 clear h hok hC hp GY ho
 generalize hn:body.length = n at *
 generalize VK:L.queue.length = qn at *
 have HN:=Lib.hid hn
 have S9:=Lib.hid VK
 clear hn VK
 have hd:((n:Int) == 0) = false:=by simp; omega
 have hd3:decide ((n:Int) > 1000) = false:=by simp; omega
 have hd4:decide ((qn:Int) ≥ 64) = false:=by simp; omega
 go_enter Try.func30,Try.ntmps30
 go_wp2_with fail
 try go_quiet (fail)
 go_wp2_with fail
 have hSS:w.drew.heap[g]? = some (.cells (row L (.slice A6 qn c6) o) 131 (0,0)):=H0.out.blk
 have hbd:Below w.heap.size w w.drew:=AZ (Below.refl _ _)
 have hsz:w.drew.heap.size = w.heap.size:=rfl
 clear hc1 hc6 hd hd3 hd4 hl hq
 refine BA (n:=12) (S:=fun w' => w'.heap[g]? = some (.cells (row L (.slice A6 qn c6) o) 131 (0,0))) (ds:=[11]) xZ (by kernel_rfl) rfl rfl (hSS) (fun hHeld => ?_)
 generalize w.drew = w2 at hbd hsz hHeld ⊢
 have Ph:=Lib.hid hbd
 have OU:=Lib.hid hsz
 clear hbd hsz
 refine pu 0 30 xh ?_
 refine pu 1 31 xk ?_
 refine pu 2 32 xm ?_
 refine pu 3 33 xq ?_
 refine tk 4 34 xu hHeld ?_ (hf:=by intro w' s0; have hc6:w'.cell? ⟨g,6,none⟩ = some (.slice A6 qn c6):=(AA s0 6).trans rfl; clear s0; go_simp; with_reducible rfl)
 refine pu 5 35 xw ?_
 refine on 6 (some 36) xx fun K hK => ?_
 refine Kd.BO (Kd.int .u8) (Rr:=fun x cs => cs = [Value.int .u8 x]) (w0:=w) B (by rfl) (.const (.slice none 0 0)) (.tmp 35) 22 5 (.int .u8 0) 1 rfl Try.underlying22 IJ rfl (by decide) (by decide) (.slice none 0 0) [] body Ab n cb (fun k => w2.heap.size ≤ k) (fun _ => False) rfl rfl (Kd.D5 _ _ _ _ _) (Kd.Cm (by have:=V9.out; rwa [← HN.out] at this ⊢) Ph.out) (fun _ _ hx => hx) (fun _ hf => hf.elim) (fun k hk => hk) (Ph.out.mono hB) (by have:=OU.out; omega) (by have:=FP.out; have:=HN.out; simp; omega) ?_
 intro v1 w3 hR hbl hg _
 obtain ⟨A1,c1,hv1⟩:=Kd.Am hR
 subst hv1
 have hbg:Below w2.heap.size w2 w3:=⟨hg.os,hg.tape,hg.output,hg.size,fun k hk => hg.block k hk (by simp [Value.ownBlock])⟩
 have hb3:Below w.heap.size w w3:=Ph.out.trans (hbg.mono Ph.out.size)
 have HB3:=Lib.hid hb3
 have HR3:=Lib.hid (show (Kd.int .u8).R 5 w3 B (fun k => w2.heap.size ≤ k) _ body from hR)
 have hS3:w3.heap[g]? = some (.cells (row L (.slice A6 qn c6) o) 131 (0,0)):=(hbg.block g (AQ hHeld)).trans hHeld
 clear hR hbl hg hbg hb3 hHeld
 refine hK.out _ _ hS3 (fun hHeld => ?_)
 clear hK K hS3
 refine nm 36 ?_
 refine on 7 (some 37) xy fun K hK => ?_
 refine Es (v:=.slice (some ⟨w3.heap.size,0,none⟩) 1 1) (by rfl) rfl (w1:=w3.alloc (.cells #[.slice A1 ([] ++ body).length c1] 22)) ?_ ?_
 ·first | (go_simp; done) | (go_simp; rfl)
 have hb4:=(Below.refl w3.heap.size w3).alloc (Nat.le_refl _) (.cells #[.slice A1 ([] ++ body).length c1] 22)
 have I4:=Lib.hid hHeld
 refine hK.out _ _ ((hb4.block g (AQ hHeld)).trans hHeld) (fun hHeld => ?_)
 clear hK K
 refine nm 37 ?_
 refine on 8 (some 38) x8 fun K hK => ?_
 have hq3:=Kd.aU H0.out.queue HB3.out
 have hown:∀ k,(Value.slice A6 qn c6).ownBlock = some k → Ak k:=fun k hk => Kd.yM H0.out.queue k hk
 have FT:(Kd.int .u8).R 5 w3 B (fun k => w2.heap.size ≤ k ∧ k < w3.heap.size) (.slice A1 ([] ++ body).length c1) body:=Kd.BV (Kd.Du HR3.out) (fun k hk => ⟨hk.1,hk.2.2.1⟩)
 have Qj:bytes.M w3 B (fun k => w2.heap.size ≤ k ∧ k < w3.heap.size) body [.slice A1 ([] ++ body).length c1]:=⟨_,rfl,FT⟩
 refine Kd.OZ (W:=w3) (w0:=w) bytes B ?hw (.tmp 34) (.tmp 37) 45 22 (.slice none 0 0) 24 ?ho ?ht ?hi ?hz ?hs0 ?hb0 (.slice A6 qn c6) L.queue body [.slice A1 ([] ++ body).length c1] (fun k => Ak k ∨ w.heap.size ≤ k) (fun k => w2.heap.size ≤ k ∧ k < w3.heap.size) ?hs ?hx ?hp ?Eg ?hf ?HO ?HB ?hb ?hl ?h
 case hw => rfl
 case ho => rfl
 case ht => exact Try.underlying45
 case hi => exact info22
 case hz => rfl
 case hs0 => decide
 case hb0 => decide
 case hs => rfl
 case hx => rfl
 case hp => exact Qj
 case Eg => exact fun k hk => ⟨.inr (by have:=OU.out; omega),fun he => by have:=(H0.out.old k (.inl (hown k he.symm))).1; have:=OU.out; omega⟩
 case hf => exact fun k hk => .inr (by have:=HB3.out.size; omega)
 case HO => exact Kd.LG hq3 (fun _ hk => .inl hk)
 case HB => exact HB3.out.mono hB
 case hb => have:=HB3.out.size; omega
 case hl => have:=S9.out; have:=yP.out; omega
 intro o1 w4 hQ hbl hg _
 obtain ⟨A2,c2,ho1,hlo⟩:=Kd.Gy hQ
 generalize (L.queue ++ [body]).length = n1 at ho1
 subst ho1
 have hK4:Kept w w4 Ak:=Kept.Gi hg (Kept.of_below HB3.out Ak) (fun k hk => .inl (hown k hk))
 have jC:w4.heap[g]? = some (.cells (row L (.slice A6 qn c6) o) 131 (0,0)):=Ap H0.out.blk hK4 (fun ho => (H0.out.old g (.inl ho)).2 rfl)
 have wJ:=Lib.hid hK4
 have VM:=Lib.hid jC
 have HQ4:=Lib.hid hQ
 have yS:=Lib.hid hbl
 clear hbl hg hown I4 hq3 FT Qj hK4 hQ hlo hHeld
 refine hK.out _ _ jC (fun hHeld => ?_)
 clear hK K jC
 refine nm 38 ?_
 refine pu 9 39 x9 ?_
 refine pu 10 40 yA ?_
 refine la 11 none yB fun K hK => ?_
 have hz1:w4.cell? ⟨g,6,none⟩ = some (.slice A6 qn c6):=(AA VM.out 6).trans rfl
 have hz2:=AL VM.out 6
 refine CG (fun wz => At wz B (fun k => Ak k ∨ w.heap.size ≤ k ∧ k < w4.heap.size) Aj g { L with queue:=L.queue ++ [body] } (.slice A2 n1 c2) o ∧ wz.heap.size = w4.heap.size ∧ Kept w wz (fun k => Ak k ∨ k = g) ∧ Below B w wz) (by rfl) rfl ⟨_,by first | (go_simp; done) | (go_simp; rfl),?_,?_,?_,?_⟩ (fun w5 hF => ?_)
 ·have hs4:=wJ.out.1
  have hgl:=hgl
  refine At.put' VM.out 6 _ rfl (Kd.LG (Kd.PW HQ4.out) (fun k hk => hk.1.elim (fun h => .inl h) (fun h => .inr ⟨h,hk.2.2.1⟩))) (Kd.BJ H0.out.out wJ.out (fun k ho hq => H0.out.apart k hq ho)) H0.out.low (fun k hk ho => hk.elim (fun h => H0.out.apart k h ho) (fun hn => by have:=(H0.out.old k (.inr ho)).1; omega)) (fun k hk => ?_)
  rcases hk with (hk | hk) | hk
  ·have:=H0.out.old k (.inl hk); exact ⟨by omega,this.2⟩
  ·exact ⟨hk.2,by omega⟩
  ·have:=H0.out.old k (.inr hk); exact ⟨by omega,this.2⟩
 ·simp [World.setCell]
 ·exact (wJ.out.mono (fun k hk => .inl hk)).setCell (p:=⟨g,6,none⟩) (.inl (.inr rfl)) _
 ·exact yS.out.setCell (p:=⟨g,6,none⟩) H0.out.low _
 have HF:=Lib.hid hF
 clear hF hz1 hz2 hHeld
 refine hK.out _ _ ?_
 clear hK K
 refine BG (by kernel_rfl) ?_
 have OK5:=Lib.hid (NR OK.out (body:=body) (by have:=FP.out; have:=HN.out; omega) (by have:=yP.out; have:=S9.out; omega))
 go_wp2_with (first | (go_at_call 74; (refine (MM HF.out.1 OK5.out (by rw [HF.out.2.1]; exact Nat.le_trans hB wJ.out.1)).mono ?_); (rintro e w9 ⟨rfl,hE⟩); (have HE:=Lib.hid hE); (clear hE)))
 all_goals (go_ret; refine ⟨rfl,?_⟩)
 refine DC.trans (L:={ L with queue:=L.queue ++ [body] }) ⟨⟨_,_,_,_,HF.out.1,fun k hk => ?_⟩,HF.out.2.2.1.mono (fun k hk => HOW.out k (hk.elim .inl (fun h => .inr (.inr h)))),HF.out.2.2.2⟩ (CJ.turns (fun k hk => ?_) HE.out)
 ·rw [HF.out.2.1]
  exact Z57
 ·rw [HF.out.2.1]
  exact Z57
theorem af {w:World} {B g:Nat} {Ak Aj:Nat → Prop} {L:Lk} {q o:Value} (h:At w B Ak Aj g L q o) (hok:L.Ok) (hB:B ≤ w.heap.size) (body:List Int) (Ab:Option Addr) (cb:Nat) (hC:(Kd.int .u8).C w Ab body.length body) {own:Nat → Prop} (ho:∀ k,holds Ak Aj g k → own k) :
  Calls Try.prog 30 #[.pointer (some ⟨g,0,none⟩),.slice Ab body.length cb] w fun e w' => e = .returned (.int .i64 (Bq L body.length)) ∧ DC w B own g (Be L body) w':=by
 have same:∀ m,DC w B own g L (w.drewN m):=fun m => (DC.same ⟨Ak,Aj,q,o,h,ho⟩).below hB (Au (Below.refl _ _) m)
 by_cases hp:L.phase = 2
 ·by_cases hl:body.length = 0 ∨ 1000 < body.length
  ·have hE:Bq L body.length = 112:=by unfold Bq; rw [if_pos hp,if_pos hl]
   have hL:Be L body = L:=by unfold Be; rw [hE,if_neg (by decide)]
   rw [hE,hL]
   refine (WC h hok hB body Ab cb hC hp hl).mono ?_
   rintro e w' ⟨rfl,m,rfl⟩
   exact ⟨rfl,same m⟩
  ·by_cases hq:64 ≤ L.queue.length
   ·have hE:Bq L body.length = 113:=by unfold Bq; rw [if_pos hp,if_neg hl,if_pos hq]
    have hL:Be L body = L:=by unfold Be; rw [hE,if_neg (by decide)]
    rw [hE,hL]
    refine (WE h hok hB body Ab cb hC hp hl hq).mono ?_
    rintro e w' ⟨rfl,m,rfl⟩
    exact ⟨rfl,same m⟩
   ·have hE:Bq L body.length = 0:=by unfold Bq; rw [if_pos hp,if_neg hl,if_neg hq]
    have hL:Be L body = BL { L with queue:=L.queue ++ [body] }:=by unfold Be; rw [hE,if_pos rfl]
    rw [hE,hL]
    exact aZ h hok hB body Ab cb hC hp hl hq ho
 ·have hE:Bq L body.length = 110:=by unfold Bq; rw [if_neg hp]
  have hL:Be L body = L:=by unfold Be; rw [hE,if_neg (by decide)]
  rw [hE,hL]
  refine (WB h hok hB body Ab cb hC hp).mono ?_
  rintro e w' ⟨rfl,rfl⟩
  exact ⟨rfl,DC.same ⟨Ak,Aj,q,o,h,ho⟩⟩
theorem jD (a b:Int) (w:World):Calls Try.prog 106 #[.int .u32 a,.int .u32 b] w fun e w' => e = .returned (.int .u32 (IntKind.u32.wrap (b - a))) ∧ w = w':=by
 go_enter Try.func106,Try.ntmps106
 go_wp2
 all_goals (go_ret; exact ⟨rfl,rfl⟩)
theorem FY (a b:Int) (w:World):Calls Try.prog 79 #[.int .u32 a,.int .u32 b] w fun e w' => e = .returned (.int .u32 (IntKind.u32.wrap (b - a))) ∧ w = w':=by
 go_enter Try.func79,Try.ntmps79
 go_wp2_with (go_at_call 106; refine (jD _ _ _).mono ?_; rintro e w1 ⟨rfl,rfl⟩)
 all_goals (go_ret; exact ⟨rfl,rfl⟩)
theorem token_of {w:World} {B g:Nat} {own:Nat → Prop} {L:Lk} (h:End w B own g L):Calls Try.prog 71 #[.pointer (some ⟨g,0,none⟩)] w fun e w' => e = .returned (.int .u32 L.token) ∧ w = w':=by
 obtain ⟨Ak,Aj,q,o,h,_⟩:=h
 have hc1:w.cell? ⟨g,2,none⟩ = some (.int .u32 L.token):=(AA h.blk 2).trans rfl
 clear h
 go_enter Try.func71,Try.ntmps71
 go_wp2
 all_goals (go_ret; exact ⟨rfl,rfl⟩)
theorem Z45 {p:Prop} (h:p:=by
 clear hk
 go_enter Try.func129,Try.ntmps129
 go_wp2_with fail
 try go_quiet (fail)
 go_wp2
 all_goals (go_ret2; refine ⟨rfl,?_⟩; first | exact Below.refl _ _ | exact AZ (Below.refl _ _) | exact Au (Below.refl _ _) _)):p:=h
theorem VN {w:World} {B g:Nat} {own:Nat → Prop} {L:Lk} (h:End w B own g L):Calls Try.prog 129 #[.pointer (some ⟨g,0,none⟩)] w fun e w' => e = .returned (.tuple #[.int .u32 (if L.known then L.AB else 0),.int .u32 (if L.known then L.yours else 0)]) ∧ Below w.heap.size w w':=by
 obtain ⟨Ak,Aj,q,o,h,_⟩:=h
 have hc3:w.cell? ⟨g,3,none⟩ = some (.int .u32 L.AB):=(AA h.blk 3).trans rfl
 have hc4:w.cell? ⟨g,4,none⟩ = some (.int .u32 L.yours):=(AA h.blk 4).trans rfl
 have hc5:w.cell? ⟨g,5,none⟩ = some (.bool L.known):=(AA h.blk 5).trans rfl
 clear h
 cases hk:L.known
 ·rw [hk] at hc5
  rw [if_neg (by decide),if_neg (by decide)]
  exact Z45
 ·rw [hk] at hc5
  rw [if_pos rfl,if_pos rfl]
  exact Z45
def BI (L:Lk) (p:Bz):Bool:=decide (p.AB = L.own ∧ p.yours = L.token)
theorem EE {w:World} {B g:Nat} {Ak Aj:Nat → Prop} {L:Lk} {q o:Value} (h:At w B Ak Aj g L q o) (p:Bz) (b:Value):Calls Try.prog 77 #[.pointer (some ⟨g,0,none⟩),.agg #[.int .i64 p.kind,.int .u32 p.mine,.int .u32 p.AB,.int .u32 p.yours,.int .u32 p.seq,.int .u32 p.AV,.int .u32 p.stamp,.int .u32 p.echo,.complex .f64 p.zr p.zi,b]] w fun e w' => e = .returned (.bool (BI L p)) ∧ Below w.heap.size w w':=by
 have hbl:=(Below.refl w.heap.size w).alloc (Nat.le_refl _) (.cells #[.int .i64 p.kind,.int .u32 p.mine,.int .u32 p.AB,.int .u32 p.yours,.int .u32 p.seq,.int .u32 p.AV,.int .u32 p.stamp,.int .u32 p.echo,.complex .f64 p.zr p.zi,b] 27)
 have h1:=h.below hbl
 generalize hw:w.alloc (.cells #[.int .i64 p.kind,.int .u32 p.mine,.int .u32 p.AB,.int .u32 p.yours,.int .u32 p.seq,.int .u32 p.AV,.int .u32 p.stamp,.int .u32 p.echo,.complex .f64 p.zr p.zi,b] 27) = w1 at *
 have hcb:=heap_alloc_new w (.cells #[.int .i64 p.kind,.int .u32 p.mine,.int .u32 p.AB,.int .u32 p.yours,.int .u32 p.seq,.int .u32 p.AV,.int .u32 p.stamp,.int .u32 p.echo,.complex .f64 p.zr p.zi,b] 27)
 rw [hw] at hcb
 have hk0:w1.cell? ⟨g,0,none⟩ = some (.int .u32 L.own):=(AA h1.blk 0).trans rfl
 have hk2:w1.cell? ⟨g,2,none⟩ = some (.int .u32 L.token):=(AA h1.blk 2).trans rfl
 have hp2:w1.cell? ⟨w.heap.size,2,none⟩ = some (.int .u32 p.AB):=(AA hcb 2).trans rfl
 have hp3:w1.cell? ⟨w.heap.size,3,none⟩ = some (.int .u32 p.yours):=(AA hcb 3).trans rfl
 have HB:=Lib.hid hbl
 clear h h1 hcb hbl
 unfold BI
 generalize L.own = lo at *
 generalize L.token = lt at *
 by_cases h1:p.AB = lo
 ·have hd:decide (p.AB = lo) = true:=by simp [h1]
  have he:(p.AB == lo) = true:=by simp [h1]
  clear h1
  go_enter Try.func77,Try.ntmps77
  go_wp2_with fail
  go_quiet (fail)
  go_wp2
  go_ret
  have h1:p.AB = lo:=by simpa using hd
  refine ⟨?_,by first | exact HB.out | exact Au HB.out _ | exact AZ HB.out⟩
  simp only [h1,true_and]
  first | rfl | (congr 1; simp [h1]; done) | (congr 2; by_cases h2:p.yours = lt <;> simp [h2])
 ·have hd:decide (p.AB = lo) = false:=by simp [h1]
  have he:(p.AB == lo) = false:=by simp [h1]
  clear h1
  go_enter Try.func77,Try.ntmps77
  go_wp2_with fail
  go_quiet (fail)
  go_wp2
  go_ret
  have h1:¬ p.AB = lo:=by simpa using hd
  refine ⟨?_,by first | exact HB.out | exact Au HB.out _ | exact AZ HB.out⟩
  simp [h1]
def Bo (L:Lk) (AB mine:Int):Int:=if AB < L.AB then -1 else if AB = L.AB then (if mine < L.yours then -1 else if mine = L.yours then 0 else 1) else 1
theorem Dy {w:World} {B g:Nat} {Ak Aj:Nat → Prop} {L:Lk} {q o:Value} (h:At w B Ak Aj g L q o) (AB mine:Int):Calls Try.prog 76 #[.pointer (some ⟨g,0,none⟩),.int .u32 AB,.int .u32 mine] w fun e w' => e = .returned (.int .i64 (Bo L AB mine)) ∧ w = w':=by
 have hc3:w.cell? ⟨g,3,none⟩ = some (.int .u32 L.AB):=(AA h.blk 3).trans rfl
 have hc4:w.cell? ⟨g,4,none⟩ = some (.int .u32 L.yours):=(AA h.blk 4).trans rfl
 clear h
 unfold Bo
 generalize L.AB = lb at *
 generalize L.yours = ly at *
 by_cases h1:AB < lb
 ·rw [if_pos h1]
  go_enter Try.func76,Try.ntmps76
  go_wp2
  all_goals (go_ret; exact ⟨rfl,rfl⟩)
 ·rw [if_neg h1]
  by_cases h2:AB = lb
  ·subst h2
   rw [if_pos rfl]
   by_cases h3:mine < ly
   ·rw [if_pos h3]
    go_enter Try.func76,Try.ntmps76
    go_wp2
    all_goals (go_ret; exact ⟨rfl,rfl⟩)
   ·rw [if_neg h3]
    by_cases h4:mine = ly
    ·subst h4
     rw [if_pos rfl]
     go_enter Try.func76,Try.ntmps76
     go_wp2
     all_goals (go_ret; exact ⟨rfl,rfl⟩)
    ·rw [if_neg h4]
     go_enter Try.func76,Try.ntmps76
     go_wp2
     all_goals (go_ret; exact ⟨rfl,rfl⟩)
  ·rw [if_neg h2]
   go_enter Try.func76,Try.ntmps76
   go_wp2
   all_goals (go_ret; exact ⟨rfl,rfl⟩)
theorem jE {w:World} {B g:Nat} {Ak Aj:Nat → Prop} {L:Lk} {q o:Value} (h:At w B Ak Aj g L q o):Calls Try.prog 32 #[.pointer (some ⟨g,0,none⟩)] w fun e w' => e = .returned o ∧ At w' B Ak (fun _ => False) g { L with out:=[] } q (.slice none 0 0) ∧ pkt.R 27 w' B Aj o L.out ∧ Go.Proofs.Ytnkkgofpifhoeaa.Steps.At g w w':=by
 obtain ⟨A,c,ho⟩:=Kd.Am h.out
 have Ob:w.cell? ⟨g,11,none⟩ = some (.slice A L.out.length c):=(AA h.blk 11).trans (by rw [ho]; rfl)
 have HO:=Lib.hid ho
 have H:=Lib.hid h
 clear h ho
 go_enter Try.func32,Try.ntmps32
 go_wp2_with (first | ((with_reducible refine gate_ (.store 53 (.tmp 12) (.const (.slice none 0 0))) rfl ?_); (refine AU (fun wz => At wz B Ak (fun _ => False) g { L with out:=[] } q (.slice none 0 0) ∧ Go.Proofs.Ytnkkgofpifhoeaa.Steps.At g w wz) rfl rfl ⟨_,(by have hz1:World.cell? _ ⟨g,11,none⟩ = some _:=(AA H.out.blk 11).trans rfl; have hz2:=AL H.out.blk 11; first | (go_simp; done) | (go_simp; rfl)),H.out.put 11 _ rfl H.out.queue (Kd.D5 _ _ _ _ _) (fun _ _ hf => hf) (fun k hk => H.out.old k (hk.elim (fun x => .inl x) (fun f => False.elim f))),Steps.At.set (Steps.At.refl g w) _ _⟩ (fun Ce hF => ?_)); (have K1:=Lib.hid hF); (clear hF)))
 all_goals (go_ret; exact ⟨by rw [HO.out]; rfl,K1.out.1,Kd.NG H.out.out (fun k hk _ => K1.out.2.block k (H.out.old k (.inr hk)).2),K1.out.2⟩)
end Go.Proofs.Ytnkkgofpifhoeaa.Lk
end
section
namespace Go.Proofs.Ytnkkgofpifhoeaa.nY
open Ieee
def fin (x:Nat):Bool:=decide (x % 9223372036854775808 < 9218868437227405312)
def Jn (x:Nat):Bool:=x % 9223372036854775808 == 0
def MG (x:Nat):Bool:=x == 9223372036854775808
inductive Read (x:Nat):Datum → Prop
 | sub (s:Bool) (m:Nat):m = x % 9223372036854775808 → m < 4503599627370496 → Read x (.number s m (-1074))
 | norm (s:Bool) (m k:Nat):4503599627370496 ≤ m → m < 9007199254740992 → x % 9223372036854775808 = (k + 1) * 4503599627370496 + (m - 4503599627370496) → k ≤ 2045 → Read x (.number s m (-1074 + (k:Nat)))
 | inf (s:Bool):x % 9223372036854775808 = 9218868437227405312 → Read x (.infinity s)
 | nan (s:Bool) (q:Nat):9218868437227405312 < x % 9223372036854775808 → Read x (.nan s q)
theorem IM (x:Nat):Read x (double.read x):=by
 have e1:double.signWeight = 9223372036854775808:=by decide
 have e2:double.binade = 4503599627370496:=by decide
 have e3:double.infRung = 9218868437227405312:=by decide
 have e4:double.leastPlace = -1074:=by decide
 unfold Format.read
 rw [e1,e2,e3,e4]
 simp only
 generalize hs:(x / 9223372036854775808 % 2 == 1) = s
 split
 ·exact .sub s _ rfl (by assumption)
 ·split
  ·rename_i h1 h2
   refine .norm s _ (x % 9223372036854775808 / 4503599627370496 - 1) (by omega) (by omega) (by omega) (by omega)
  ·split
   ·exact .inf s (by assumption)
   ·exact .nan s _ (by omega)
theorem Gz (s:Bool) (m k:Nat):signed s m k = 0 ↔ m = 0:=by
 unfold signed
 rw [Nat.shiftLeft_eq]
 have hp:0 < 2 ^ k:=Nat.two_pow_pos k
 constructor
 ·intro h
  split at h
  ·have:m * 2 ^ k = 0:=by omega
   rcases Nat.mul_eq_zero.1 this with h | h <;> omega
  ·have:m * 2 ^ k = 0:=by omega
   rcases Nat.mul_eq_zero.1 this with h | h <;> omega
 ·rintro rfl
  simp
theorem cmp_eq (a b:Int):(some (compare a b) == some Ordering.eq) = decide (a = b):=by
 have:(compare a b == Ordering.eq) = decide (a = b):=by
  by_cases h:a = b
  ·subst h
   simp [compare,compareOfLessAndEq]
  ·have:compare a b ≠ .eq:=by
    simp only [compare,compareOfLessAndEq]
    split
    ·decide
    ·simp [h]
   simp [h]
 simpa using this
theorem ah (x:Nat):(double.order x 0 == some .eq) = Jn x:=by
 have hz:double.read 0 = .number false 0 (-1074):=by decide +kernel
 unfold Format.order Jn
 rw [hz]
 have hr:=IM x
 generalize double.read x = d at hr ⊢
 cases hr with
 | sub s m h1 h2 =>
  simp only [Datum.order]
  rw [cmp_eq]
  rw [← h1]
  by_cases h:m = 0
  ·subst h
   simp [signed]
  ·have hne:¬ signed s m ((-1074:Int) - min (-1074) (-1074)).toNat = signed false 0 ((-1074:Int) - min (-1074) (-1074)).toNat:=by
    rw [(Gz false 0 _).2 rfl]
    exact fun e => h ((Gz _ _ _).1 e)
   rw [decide_eq_false hne]
   symm
   rw [beq_eq_false_iff_ne]
   exact h
 | norm s m k h1 h2 h3 h4 =>
  simp only [Datum.order]
  rw [cmp_eq]
  have hne:¬ signed s m ((-1074 + (k:Int)) - min (-1074 + (k:Int)) (-1074)).toNat = signed false 0 ((-1074:Int) - min (-1074 + (k:Int)) (-1074)).toNat:=by
   rw [(Gz false 0 _).2 rfl]
   intro e
   have:=(Gz _ _ _).1 e
   omega
  rw [decide_eq_false hne]
  symm
  rw [beq_eq_false_iff_ne]
  omega
 | inf s h =>
  simp only [Datum.order,h]
  cases s <;> decide
 | nan s q h =>
  simp only [Datum.order]
  symm
  rw [show (none == some Ordering.eq) = false from rfl,beq_eq_false_iff_ne]
  omega
theorem Pj (x:Nat) (h:fin x = true):double.sub x x = some 0:=by
 unfold fin at h
 have h':=of_decide_eq_true h
 unfold Format.sub
 have key:∀ (s:Bool) (m:Nat) (i:Int),(Option.map double.write ((Datum.number s m i).sum (Datum.number s m i).opposite)) = some 0:=by
  intro s m i
  simp only [Datum.opposite,Datum.sum,Option.map_some]
  have ht:signed s m (i - min i i).toNat + signed (!s) m (i - min i i).toNat = 0:=by
   unfold signed
   cases s <;> simp <;> omega
  rw [ht]
  cases s <;> rfl
 cases hr:double.read x with
 | number s m i => exact key s m i
 | infinity s =>
  have:=IM x
  rw [hr] at this
  cases this
  omega
 | nan s q =>
  have:=IM x
  rw [hr] at this
  cases this
  omega
theorem Pm (x:Nat) (h:fin x = false):double.sub x x = none:=by
 unfold fin at h
 have h':=of_decide_eq_false h
 unfold Format.sub
 cases hr:double.read x with
 | number s m i =>
  have:=IM x
  rw [hr] at this
  cases this <;> omega
 | infinity s => cases s <;> rfl
 | nan s q => rfl
theorem Hw:double.div 4607182418800017408 0 = some 9218868437227405312:=by decide +kernel
theorem JM:double.div 4607182418800017408 9223372036854775808 = some 18442240474082181120:=by decide +kernel
theorem GZ:(double.order 9218868437227405312 0 == some .lt) = false:=by decide +kernel
theorem IP:(double.order 18442240474082181120 0 == some .lt) = true:=by decide +kernel
theorem JO (x:Nat) (h:x < 18446744073709551616) (hz:Jn x = true):x = 0 ∨ x = 9223372036854775808:=by
 unfold Jn at hz
 have:=beq_iff_eq.1 hz
 omega
theorem jF (a b:Int):(some (compare a b) == some Ordering.gt) = decide (b < a):=by
 simp only [compare,compareOfLessAndEq]
 split
 ·have:¬ b < a:=by omega
  simp [this]
 ·split
  ·have:¬ b < a:=by omega
   simp [this]
  ·have:b < a:=by omega
   simp [this]
theorem jG (a b:Int):(some (compare a b) == some Ordering.lt) = decide (a < b):=by
 simp only [compare,compareOfLessAndEq]
 split
 ·rename_i h; simp [h]
 ·rename_i h
  split
  ·simp [h]
  ·simp [h]
def jH:Nat:=9218868437227405311
def jI:Nat:=18442240474082181119
theorem X0:double.read jH = .number false 9007199254740991 971:=by decide +kernel
theorem X3:double.read jI = .number true 9007199254740991 971:=by decide +kernel
theorem X4 (n k:Nat):n ≤ n <<< k:=by
 rw [Nat.shiftLeft_eq]
 exact Nat.le_mul_of_pos_right _ (Nat.two_pow_pos k)
theorem WG (x:Nat):((double.order x jI == some .gt || double.order x jI == some .eq) && (double.order x jH == some .lt || double.order x jH == some .eq)) = fin x:=by
 unfold Format.order
 rw [X0,X3]
 have key:∀ (s:Bool) (m:Nat) (i:Int),m ≤ 9007199254740991 → i ≤ 971 →
   (((Datum.number s m i).order (.number true 9007199254740991 971) == some .gt || (Datum.number s m i).order (.number true 9007199254740991 971) == some .eq) && ((Datum.number s m i).order (.number false 9007199254740991 971) == some .lt || (Datum.number s m i).order (.number false 9007199254740991 971) == some .eq)) = true:=by
  intro s m i hm hi
  simp only [Datum.order]
  rw [jF,jG,cmp_eq,cmp_eq]
  have hmin:min i 971 = i:=by omega
  rw [hmin]
  have hb:=X4 9007199254740991 (971 - i).toNat
  have e0:(i - i).toNat = 0:=by omega
  rw [e0]
  unfold signed
  generalize 9007199254740991 <<< (971 - i).toNat = T at hb ⊢
  rw [Nat.shiftLeft_zero]
  cases s
  ·simp
   omega
  ·simp
   omega
 cases hr:double.read x with
 | number s m i =>
  have h:=IM x
  rw [hr] at h
  have hf:fin x = true ∧ m ≤ 9007199254740991 ∧ i ≤ 971:=by
   unfold fin
   rw [decide_eq_true_iff]
   cases h <;> omega
  rw [key s m i hf.2.1 hf.2.2,hf.1]
 | infinity s =>
  have h:=IM x
  rw [hr] at h
  have hf:fin x = false:=by
   unfold fin
   rw [decide_eq_false_iff_not]
   cases h
   omega
  rw [hf]
  cases s <;> rfl
 | nan s q =>
  have h:=IM x
  rw [hr] at h
  have hf:fin x = false:=by
   unfold fin
   rw [decide_eq_false_iff_not]
   cases h
   omega
  rw [hf]
  rfl
end Go.Proofs.Ytnkkgofpifhoeaa.nY
end
section
namespace Go.Proofs.Ytnkkgofpifhoeaa.Num
open Go.RowKit Go.Proofs.Ytnkkgofpifhoeaa.nY Go.Proofs.Ytnkkgofpifhoeaa.Base
section
variable {P:Program}
theorem X6 (w:World) (t:TypeId) (x y r:Nat) (h:Ieee.double.sub x y = some r):(binOp .sub t (.float .f64 x) (.float .f64 y)).run P w = .ok (.float .f64 r) w:=by
 simp [binOp,Op.floatArith,FloatKind.format,h]
theorem Eb (w:World) (t:TypeId) (x y r:Nat) (h:Ieee.double.div x y = some r):(binOp .quo t (.float .f64 x) (.float .f64 y)).run P w = .ok (.float .f64 r) w:=by
 simp [binOp,Op.floatArith,FloatKind.format,h]
theorem ai (x y t:Nat):Jn (Question.cut (.nanBits .f64 x y) t) = false:=by
 unfold Jn
 rw [beq_eq_false_iff_ne]
 show ((t % 2) * 2 ^ 63 + 0x7ff0000000000000 + 1 + (t / 2) % (2 ^ 52 - 1)) % 9223372036854775808 ≠ 0
 have h1:=Nat.mod_lt (t / 2) (show 0 < 2 ^ 52 - 1 by decide)
 have h2:=Nat.mod_lt t (show 0 < 2 by decide)
 generalize t % 2 = a at h2 ⊢
 generalize t / 2 % (2 ^ 52 - 1) = b at h1 ⊢
 omega
theorem Pn (w:World) (t:TypeId) (x y:Nat) (h:Ieee.double.sub x y = none):∃ r,Jn r = false ∧ (binOp .sub t (.float .f64 x) (.float .f64 y)).run P w = .ok (.float .f64 r) w.drew:=by
 obtain ⟨q,hq⟩:∃ q,q = Question.nanBits .f64 x y:=⟨_,rfl⟩
 refine ⟨q.cut (w.tape w.drawn q),by rw [hq]; exact ai _ _ _,?_⟩
 simp [binOp,Op.floatArith,FloatKind.format,h]
 rw [← hq]
 have hf:q.forced = false:=by rw [hq]; rfl
 simp [hf]
end
theorem Ej (x:Nat):(FloatKind.f64.format.order x 0 == some Ordering.eq) = Jn x:=ah x
theorem Om (x:Nat) (h:fin x = false) (w:World):Calls Try.prog 122 #[.float .f64 x] w fun e w' => e = .returned (.bool false) ∧ ∃ n,w' = w.drewN n:=by
 obtain ⟨r,hr,hs⟩:=Pn (P:=Try.prog) w 38 x x (Pm x h)
 go_enter Try.func122,Try.ntmps122
 go_wp2
 go_ret
 exact ⟨Dv (by rw [Ej,hr]),1,rfl⟩
theorem DF (x:Nat) (h:fin x = true) (w:World):Calls Try.prog 122 #[.float .f64 x] w fun e w' => e = .returned (.bool true) ∧ ∃ n,w' = w.drewN n:=by
 have hs:=X6 (P:=Try.prog) w 38 x x 0 (Pj x h)
 go_enter Try.func122,Try.ntmps122
 go_wp2
 go_ret
 exact ⟨Dv (by rw [Ej]; rfl),0,rfl⟩
def Jw (p q:Nat):Bool:=fin p && fin q && !(MG p) && !(MG q)
theorem aj (p q:Nat) (w:World) (h:fin p = false) :
  Calls Try.prog 99 #[.agg #[.int .i64 2,.int .i64 0,.complex .f64 p q,.string ⟨#[]⟩,.int .i64 0,.int .u32 0,.int .u64 0,.slice none 0 0,.slice none 0 0]] w fun e w' => e = .returned (.bool false) ∧ Below w.heap.size w w':=by
 go_enter Try.func99,Try.ntmps99
 go_wp2_with fail
 go_quiet (fail)
 go_wp2_with fail
 refine (Om p h _).mono ?_
 rintro e w' ⟨rfl,n0,rfl⟩
 go_wp2_with fail
 go_ret
 exact ⟨rfl,Bd ((Below.refl _ _).alloc (Nat.le_refl _) _) _⟩
theorem ak (p q:Nat) (w:World) (h:fin p = true) (h2:fin q = false) :
  Calls Try.prog 99 #[.agg #[.int .i64 2,.int .i64 0,.complex .f64 p q,.string ⟨#[]⟩,.int .i64 0,.int .u32 0,.int .u64 0,.slice none 0 0,.slice none 0 0]] w fun e w' => e = .returned (.bool false) ∧ Below w.heap.size w w':=by
 go_enter Try.func99,Try.ntmps99
 go_wp2_with fail
 go_quiet (fail)
 go_wp2_with fail
 refine (DF p h _).mono ?_
 rintro e w' ⟨rfl,n0,rfl⟩
 go_wp2_with fail
 refine (Om q h2 _).mono ?_
 rintro e w' ⟨rfl,n1,rfl⟩
 go_wp2_with fail
 go_ret
 exact ⟨rfl,Bd ((Below.refl _ _).alloc (Nat.le_refl _) _) _⟩
theorem Z51 {p:Prop} (h:p:=by
 rintro e w' ⟨rfl,n0,rfl⟩
 go_wp2_with fail
 refine (DF q f2 _).mono ?_
 rintro e w' ⟨rfl,n1,rfl⟩
 go_wp2_with fail
 go_ret
 exact ⟨rfl,Bd ((Below.refl _ _).alloc (Nat.le_refl _) _) _⟩):p:=h
theorem X7 (p:Nat) (q:Nat) (w:World) (f1:fin p = true) (hp:Jn p = false) (f2:fin q = true) (hq:Jn q = false) :
  Calls Try.prog 99 #[.agg #[.int .i64 2,.int .i64 0,.complex .f64 p q,.string ⟨#[]⟩,.int .i64 0,.int .u32 0,.int .u64 0,.slice none 0 0,.slice none 0 0]] w fun e w' => e = .returned (.bool true) ∧ Below w.heap.size w w':=by
 have ep:(FloatKind.f64.format.order p 0 == some Ordering.eq) = false:=by rw [Ej,hp]
 have eq:(FloatKind.f64.format.order q 0 == some Ordering.eq) = false:=by rw [Ej,hq]
 go_enter Try.func99,Try.ntmps99
 go_wp2_with fail
 go_quiet (fail)
 go_wp2_with fail
 refine (DF p f1 _).mono ?_
 exact Z51
theorem Z47 {p:Prop} (h:p:=by
 rintro e w' ⟨rfl,n0,rfl⟩
 go_wp2_with fail
 refine (DF 0 (by decide +kernel) _).mono ?_
 rintro e w' ⟨rfl,n1,rfl⟩
 go_wp2_with fail
 go_ret
 exact ⟨rfl,Bd ((Below.refl _ _).alloc (Nat.le_refl _) _) _⟩):p:=h
theorem X8 (p:Nat) (w:World) (f1:fin p = true) (hp:Jn p = false) :
  Calls Try.prog 99 #[.agg #[.int .i64 2,.int .i64 0,.complex .f64 p 0,.string ⟨#[]⟩,.int .i64 0,.int .u32 0,.int .u64 0,.slice none 0 0,.slice none 0 0]] w fun e w' => e = .returned (.bool true) ∧ Below w.heap.size w w':=by
 have ep:(FloatKind.f64.format.order p 0 == some Ordering.eq) = false:=by rw [Ej,hp]
 have eq:(FloatKind.f64.format.order 0 0 == some Ordering.eq) = true:=by rw [Ej]; rfl
 have dq:=fun (W:World) => Eb (P:=Try.prog) W 38 4607182418800017408 0 9218868437227405312 Hw
 have lq:(FloatKind.f64.format.order 9218868437227405312 0 == some Ordering.lt) = false:=GZ
 go_enter Try.func99,Try.ntmps99
 go_wp2_with fail
 go_quiet (fail)
 go_wp2_with fail
 refine (DF p f1 _).mono ?_
 exact Z47
theorem Z44 {p:Prop} (h:p:=by
 rintro e w' ⟨rfl,n0,rfl⟩
 go_wp2_with fail
 refine (DF 9223372036854775808 (by decide +kernel) _).mono ?_
 rintro e w' ⟨rfl,n1,rfl⟩
 go_wp2_with fail
 go_ret
 exact ⟨rfl,Bd ((Below.refl _ _).alloc (Nat.le_refl _) _) _⟩):p:=h
theorem X9 (p:Nat) (w:World) (f1:fin p = true) (hp:Jn p = false) :
  Calls Try.prog 99 #[.agg #[.int .i64 2,.int .i64 0,.complex .f64 p 9223372036854775808,.string ⟨#[]⟩,.int .i64 0,.int .u32 0,.int .u64 0,.slice none 0 0,.slice none 0 0]] w fun e w' => e = .returned (.bool false) ∧ Below w.heap.size w w':=by
 have ep:(FloatKind.f64.format.order p 0 == some Ordering.eq) = false:=by rw [Ej,hp]
 have eq:(FloatKind.f64.format.order 9223372036854775808 0 == some Ordering.eq) = true:=by rw [Ej]; rfl
 have dq:=fun (W:World) => Eb (P:=Try.prog) W 38 4607182418800017408 9223372036854775808 18442240474082181120 JM
 have lq:(FloatKind.f64.format.order 18442240474082181120 0 == some Ordering.lt) = true:=IP
 go_enter Try.func99,Try.ntmps99
 go_wp2_with fail
 go_quiet (fail)
 go_wp2_with fail
 refine (DF p f1 _).mono ?_
 exact Z44
theorem YA (q:Nat) (w:World) (f2:fin q = true) (hq:Jn q = false) :
  Calls Try.prog 99 #[.agg #[.int .i64 2,.int .i64 0,.complex .f64 0 q,.string ⟨#[]⟩,.int .i64 0,.int .u32 0,.int .u64 0,.slice none 0 0,.slice none 0 0]] w fun e w' => e = .returned (.bool true) ∧ Below w.heap.size w w':=by
 have ep:(FloatKind.f64.format.order 0 0 == some Ordering.eq) = true:=by rw [Ej]; rfl
 have dp:=fun (W:World) => Eb (P:=Try.prog) W 38 4607182418800017408 0 9218868437227405312 Hw
 have lp:(FloatKind.f64.format.order 9218868437227405312 0 == some Ordering.lt) = false:=GZ
 have eq:(FloatKind.f64.format.order q 0 == some Ordering.eq) = false:=by rw [Ej,hq]
 go_enter Try.func99,Try.ntmps99
 go_wp2_with fail
 go_quiet (fail)
 go_wp2_with fail
 refine (DF 0 (by decide +kernel) _).mono ?_
 exact Z51
theorem YB  (w:World)  :
  Calls Try.prog 99 #[.agg #[.int .i64 2,.int .i64 0,.complex .f64 0 0,.string ⟨#[]⟩,.int .i64 0,.int .u32 0,.int .u64 0,.slice none 0 0,.slice none 0 0]] w fun e w' => e = .returned (.bool true) ∧ Below w.heap.size w w':=by
 have ep:(FloatKind.f64.format.order 0 0 == some Ordering.eq) = true:=by rw [Ej]; rfl
 have dp:=fun (W:World) => Eb (P:=Try.prog) W 38 4607182418800017408 0 9218868437227405312 Hw
 have lp:(FloatKind.f64.format.order 9218868437227405312 0 == some Ordering.lt) = false:=GZ
 have eq:(FloatKind.f64.format.order 0 0 == some Ordering.eq) = true:=by rw [Ej]; rfl
 have dq:=fun (W:World) => Eb (P:=Try.prog) W 38 4607182418800017408 0 9218868437227405312 Hw
 have lq:(FloatKind.f64.format.order 9218868437227405312 0 == some Ordering.lt) = false:=GZ
 go_enter Try.func99,Try.ntmps99
 go_wp2_with fail
 go_quiet (fail)
 go_wp2_with fail
 refine (DF 0 (by decide +kernel) _).mono ?_
 exact Z47
theorem YC  (w:World)  :
  Calls Try.prog 99 #[.agg #[.int .i64 2,.int .i64 0,.complex .f64 0 9223372036854775808,.string ⟨#[]⟩,.int .i64 0,.int .u32 0,.int .u64 0,.slice none 0 0,.slice none 0 0]] w fun e w' => e = .returned (.bool false) ∧ Below w.heap.size w w':=by
 have ep:(FloatKind.f64.format.order 0 0 == some Ordering.eq) = true:=by rw [Ej]; rfl
 have dp:=fun (W:World) => Eb (P:=Try.prog) W 38 4607182418800017408 0 9218868437227405312 Hw
 have lp:(FloatKind.f64.format.order 9218868437227405312 0 == some Ordering.lt) = false:=GZ
 have eq:(FloatKind.f64.format.order 9223372036854775808 0 == some Ordering.eq) = true:=by rw [Ej]; rfl
 have dq:=fun (W:World) => Eb (P:=Try.prog) W 38 4607182418800017408 9223372036854775808 18442240474082181120 JM
 have lq:(FloatKind.f64.format.order 18442240474082181120 0 == some Ordering.lt) = true:=IP
 go_enter Try.func99,Try.ntmps99
 go_wp2_with fail
 go_quiet (fail)
 go_wp2_with fail
 refine (DF 0 (by decide +kernel) _).mono ?_
 exact Z44
theorem au (q:Nat) (w:World) (h2:fin q = true) :
  Calls Try.prog 99 #[.agg #[.int .i64 2,.int .i64 0,.complex .f64 9223372036854775808 q,.string ⟨#[]⟩,.int .i64 0,.int .u32 0,.int .u64 0,.slice none 0 0,.slice none 0 0]] w fun e w' => e = .returned (.bool false) ∧ Below w.heap.size w w':=by
 have ep:(FloatKind.f64.format.order 9223372036854775808 0 == some Ordering.eq) = true:=by rw [Ej]; rfl
 have dp:=fun (W:World) => Eb (P:=Try.prog) W 38 4607182418800017408 9223372036854775808 18442240474082181120 JM
 have lp:(FloatKind.f64.format.order 18442240474082181120 0 == some Ordering.lt) = true:=IP
 go_enter Try.func99,Try.ntmps99
 go_wp2_with fail
 go_quiet (fail)
 go_wp2_with fail
 refine (DF 9223372036854775808 (by decide +kernel) _).mono ?_
 rintro e w' ⟨rfl,n0,rfl⟩
 go_wp2_with fail
 refine (DF q h2 _).mono ?_
 rintro e w' ⟨rfl,n1,rfl⟩
 go_wp2_with fail
 go_ret
 exact ⟨rfl,Bd ((Below.refl _ _).alloc (Nat.le_refl _) _) _⟩
theorem WH (p q:Nat) (hp:p < 18446744073709551616) (hq:q < 18446744073709551616) (w:World) :
  Calls Try.prog 99 #[.agg #[.int .i64 2,.int .i64 0,.complex .f64 p q,.string ⟨#[]⟩,.int .i64 0,.int .u32 0,.int .u64 0,.slice none 0 0,.slice none 0 0]] w fun e w' => e = .returned (.bool (Jw p q)) ∧ Below w.heap.size w w':=by
 have TL:∀ x,Jn x = false → MG x = false:=by
  intro x h
  unfold Jn at h
  unfold MG
  rw [beq_eq_false_iff_ne] at h ⊢
  omega
 unfold Jw
 cases h1:fin p
 ·exact aj p q w h1
 cases h2:fin q
 ·exact ak p q w h1 h2
 cases h3:Jn p
 ·rw [TL p h3]
  cases h4:Jn q
  ·rw [TL q h4]
   exact X7 p q w h1 h3 h2 h4
  ·rcases JO q hq h4 with rfl | rfl
   ·exact X8 p w h1 h3
   ·exact X9 p w h1 h3
 ·rcases JO p hp h3 with rfl | rfl
  ·cases h4:Jn q
   ·rw [TL q h4]
    exact YA q w h2 h4
   ·rcases JO q hq h4 with rfl | rfl
    ·exact YB w
    ·exact YC w
  ·have:MG 9223372036854775808 = true:=rfl
   rw [this]
   simpa using au q w h2
end Go.Proofs.Ytnkkgofpifhoeaa.Num
end
section
namespace Go.Proofs.Ytnkkgofpifhoeaa.Pk
open Go.RowKit Go.Proofs.Ytnkkgofpifhoeaa.nY Go.Proofs.Ytnkkgofpifhoeaa.Base Go.Proofs.Ytnkkgofpifhoeaa.Num
theorem G5 {P:Program} (W:World) (t:TypeId) (x y:Nat):(binOp .eql t (.complex .f64 x y) (.complex .f64 0 0)).run P W = .ok (.bool (Jn x && Jn y)) W:=by
 have h1:=Ej x
 have h2:=Ej y
 simp [binOp,Op.complexOp,Op.Complex.cmp,Op.floatCmp,asBool,h1,h2]
def good1 (mine AB yours seq AV stamp echo:Int) (zr zi n:Nat):Bool :=
 decide (mine ≠ 0 ∧ seq < 2 ∧ ((0 < AB) ↔ (0 < yours)) ∧ n = 0 ∧ AV = 0 ∧ stamp = 0 ∧ echo = 0) && (Jn zr && Jn zi)
def I5 (mine AB yours stamp echo:Int) (zr zi n:Nat):Bool :=
 decide (mine ≠ 0 ∧ AB > 0 ∧ yours > 0 ∧ 0 < n ∧ stamp = 0 ∧ echo = 0) && (Jn zr && Jn zi)
def I7 (mine AB yours seq stamp echo:Int) (zr zi n:Nat):Bool :=
 decide (mine ≠ 0 ∧ AB > 0 ∧ yours > 0 ∧ n = 0 ∧ seq = 0 ∧ stamp = 0 ∧ echo = 0) && (Jn zr && Jn zi)
def Jo (mine AB yours seq:Int) (zr zi n:Nat):Bool :=
 Jw zr zi && decide (mine ≠ 0 ∧ AB > 0 ∧ yours > 0 ∧ n = 0 ∧ seq = 0)
theorem TM (mine AB yours seq AV stamp echo:Int) (zr zi:Nat) (A:Option Addr) (n c:Nat) (w:World) :
  Calls Try.prog 66 #[.agg #[.int .i64 1,.int .u32 mine,.int .u32 AB,.int .u32 yours,.int .u32 seq,.int .u32 AV,.int .u32 stamp,.int .u32 echo,.complex .f64 zr zi,.slice A n c],
   .agg #[.bool true,.bool false,.bool false,.bool false,.int .i64 14,.int .i64 14]] w
   fun e w' => e = .returned (.bool (good1 mine AB yours seq AV stamp echo zr zi n)) ∧ Below w.heap.size w w':=by
 have hz:=fun (W:World) => G5 (P:=Try.prog) W 25 zr zi
 have CP:=Try.underlying27
 go_enter Try.func66,Try.ntmps66
 go_wp2
 all_goals
  go_ret
  refine ⟨Dv ?_,?_⟩
  ·unfold good1
   simp_all <;> omega
  ·repeat (first | exact Below.refl _ _ | refine Below.setCell ?_ (by simp <;> omega) _ | refine Below.alloc ?_ (by simp <;> omega) _)
theorem WI (mine AB yours seq AV stamp echo:Int) (zr zi:Nat) (A:Option Addr) (n c:Nat) (w:World) :
  Calls Try.prog 66 #[.agg #[.int .i64 2,.int .u32 mine,.int .u32 AB,.int .u32 yours,.int .u32 seq,.int .u32 AV,.int .u32 stamp,.int .u32 echo,.complex .f64 zr zi,.slice A n c],
   .agg #[.bool true,.bool true,.bool false,.bool true,.int .i64 22,.int .i64 1021]] w
   fun e w' => e = .returned (.bool (I5 mine AB yours stamp echo zr zi n)) ∧ Below w.heap.size w w':=by
 have hz:=fun (W:World) => G5 (P:=Try.prog) W 25 zr zi
 have CP:=Try.underlying27
 go_enter Try.func66,Try.ntmps66
 go_wp2
 all_goals
  go_ret
  refine ⟨Dv ?_,?_⟩
  ·unfold I5
   simp_all <;> omega
  ·repeat (first | exact Below.refl _ _ | refine Below.setCell ?_ (by simp <;> omega) _ | refine Below.alloc ?_ (by simp <;> omega) _)
theorem YD (mine AB yours seq AV stamp echo:Int) (zr zi:Nat) (A:Option Addr) (n c:Nat) (w:World) :
  Calls Try.prog 66 #[.agg #[.int .i64 3,.int .u32 mine,.int .u32 AB,.int .u32 yours,.int .u32 seq,.int .u32 AV,.int .u32 stamp,.int .u32 echo,.complex .f64 zr zi,.slice A n c],
   .agg #[.bool false,.bool true,.bool false,.bool false,.int .i64 17,.int .i64 17]] w
   fun e w' => e = .returned (.bool (I7 mine AB yours seq stamp echo zr zi n)) ∧ Below w.heap.size w w':=by
 have hz:=fun (W:World) => G5 (P:=Try.prog) W 25 zr zi
 have CP:=Try.underlying27
 go_enter Try.func66,Try.ntmps66
 go_wp2
 all_goals
  go_ret
  refine ⟨Dv ?_,?_⟩
  ·unfold I7
   simp_all <;> omega
  ·repeat (first | exact Below.refl _ _ | refine Below.setCell ?_ (by simp <;> omega) _ | refine Below.alloc ?_ (by simp <;> omega) _)
theorem WJ (mine AB yours seq AV stamp echo:Int) (zr zi:Nat) (A:Option Addr) (n c:Nat) (w:World) (hp:zr < 18446744073709551616) (hq:zi < 18446744073709551616) :
  Calls Try.prog 66 #[.agg #[.int .i64 4,.int .u32 mine,.int .u32 AB,.int .u32 yours,.int .u32 seq,.int .u32 AV,.int .u32 stamp,.int .u32 echo,.complex .f64 zr zi,.slice A n c],
   .agg #[.bool false,.bool true,.bool true,.bool false,.int .i64 41,.int .i64 41]] w
   fun e w' => e = .returned (.bool (Jo mine AB yours seq zr zi n)) ∧ Below w.heap.size w w':=by
 have hz:=fun (W:World) => G5 (P:=Try.prog) W 25 0 0
 have hn:Jn 0 = true:=rfl
 have CP:=Try.underlying27
 cases hpl:Jw zr zi
 all_goals
  have HP:=Lib.hid hpl
  clear hpl
  have hq':=Lib.hid hq
  have hp':=Lib.hid hp
  clear hp hq
  go_enter Try.func66,Try.ntmps66
  go_wp2_with (go_at_call 99; refine (WH zr zi hp'.out hq'.out _).mono ?_; rintro e w' ⟨rfl,hb⟩; rw [HP.out]; obtain ⟨hc,hf⟩:=Xb hb; have hz1:=hb.size; simp at hz1)
 all_goals
  go_ret
  refine ⟨Dv ?_,?_⟩
  ·unfold Jo
   rw [HP.out]
   simp_all <;> omega
  ·(repeat (first | refine Below.setCell ?_ (by simp <;> omega) _ | refine Below.alloc ?_ (by simp <;> omega) _ | exact Below.refl _ _ | refine Below.trans ?_ (Below.mono (by assumption) (by simp <;> omega))))
end Go.Proofs.Ytnkkgofpifhoeaa.Pk
end
section
namespace Go.Proofs.Ytnkkgofpifhoeaa.Pk
open Go.RowKit Go.Proofs.YtnkkgofpifhoeaaW.PrintWords Go.Proofs.YtnkkgofpifhoeaaW.PrintLast Go.Proofs.Ytnkkgofpifhoeaa.Base
theorem b1 (w:World):(Instr.build 107 #[(0,.bool true),(4,.int .i64 14),(5,.int .i64 14)]).run Try.prog w = .ok (.agg #[.bool true,.bool false,.bool false,.bool false,.int .i64 14,.int .i64 14]) w:=by kernel_rfl
theorem b2 (w:World):(Instr.build 107 #[(0,.bool true),(1,.bool true),(3,.bool true),(4,.int .i64 22),(5,.int .i64 1021)]).run Try.prog w = .ok (.agg #[.bool true,.bool true,.bool false,.bool true,.int .i64 22,.int .i64 1021]) w:=by kernel_rfl
theorem b3 (w:World):(Instr.build 107 #[(1,.bool true),(4,.int .i64 17),(5,.int .i64 17)]).run Try.prog w = .ok (.agg #[.bool false,.bool true,.bool false,.bool false,.int .i64 17,.int .i64 17]) w:=by kernel_rfl
theorem b4 (w:World):(Instr.build 107 #[(1,.bool true),(2,.bool true),(4,.int .i64 41),(5,.int .i64 41)]).run Try.prog w = .ok (.agg #[.bool false,.bool true,.bool true,.bool false,.int .i64 41,.int .i64 41]) w:=by kernel_rfl
def tcells:Array Value:=#[.bool false,.bool false,.bool false,.bool false,.int .i64 0,.int .i64 0,.bool true,.bool false,.bool false,.bool false,.int .i64 14,.int .i64 14,.bool true,.bool true,.bool false,.bool true,.int .i64 22,.int .i64 1021,.bool false,.bool true,.bool false,.bool false,.int .i64 17,.int .i64 17,.bool false,.bool true,.bool true,.bool false,.int .i64 41,.int .i64 41]
def table:Value:=.agg tcells
theorem b5 (w:World):(Instr.build 108 #[(1,.agg #[.bool true,.bool false,.bool false,.bool false,.int .i64 14,.int .i64 14]),(2,.agg #[.bool true,.bool true,.bool false,.bool true,.int .i64 22,.int .i64 1021]),(3,.agg #[.bool false,.bool true,.bool false,.bool false,.int .i64 17,.int .i64 17]),(4,.agg #[.bool false,.bool true,.bool true,.bool false,.int .i64 41,.int .i64 41])]).run Try.prog w = .ok (.agg tcells) w:=by kernel_rfl
def zrow:Array Value:=#[.bool false,.bool false,.bool false,.bool false,.int .i64 0,.int .i64 0,.bool false,.bool false,.bool false,.bool false,.int .i64 0,.int .i64 0,.bool false,.bool false,.bool false,.bool false,.int .i64 0,.int .i64 0,.bool false,.bool false,.bool false,.bool false,.int .i64 0,.int .i64 0,.bool false,.bool false,.bool false,.bool false,.int .i64 0,.int .i64 0]
theorem al (w:World) (v:Value):(Instr.alloc 108 true v).run Try.prog w = .ok (.pointer (some ⟨w.heap.size,0,none⟩)) (w.alloc (.cells zrow 108)):=by kernel_rfl
theorem results_cell {P:Program} {fn:Func} {p:Tmp} {ty:TypeId} {w:World} {v:Value} (h:fn.results = #[.cell p ty]) (tmps:Array Value) (g:Nat) (hp:tmps.getD p undef = .pointer (some ⟨g,0,none⟩))
  (hl:(loadVar ty ⟨g,0,none⟩).run P w = .ok v w):(results fn tmps).run P w = .ok v w:=by
 have hp':tmps[p]?.getD undef = .pointer (some ⟨g,0,none⟩):=by simpa using hp
 simp only [results,h]
 simp [hp',asAddr,hl]
theorem setRow_alloc (w:World) (a b:Array Value) (t:TypeId):(w.alloc (.cells a t)).setRow w.heap.size b = w.alloc (.cells b t):=by
 have hm:∀ (h:Array Obj) (x:Obj) (f:Obj → Obj),(h.push x).modify h.size f = h.push (f x):=by
  intro h x f
  apply Array.ext
  ·simp
  ·intro i h1 h2
   simp only [Array.getElem_modify,Array.getElem_push]
   by_cases hi:h.size = i
   ·subst hi
    simp
   ·have hlt:i < h.size:=by simp at h1; omega
    simp [hi,hlt]
 unfold World.setRow World.alloc
 simp only
 rw [hm]
theorem rows_any (w:World):Calls Try.prog 59 #[] w fun e w' => e = .returned table ∧ Below w.heap.size w w':=by
 have h1:=b1
 have h2:=b2
 have h3:=b3
 have h4:=b4
 have h5:=b5
 have h0:=al
 go_enter Try.func59,Try.ntmps59
 go_wp2_with (((with_reducible refine gate_ (.store 108 (.tmp 0) (.tmp 5)) rfl ?_); refine wpList_store_row rfl 108 (.tmp 0) (.tmp 5) rfl w.heap.size _ rfl rfl 108 zrow (heap_alloc_new w _) (by kernel_rfl) rfl (by kernel_rfl) ?_; rw [setRow_alloc]))
 refine bodyPost_ret (v:=table) ?_ rfl ⟨rfl,(Below.refl _ _).alloc (Nat.le_refl _) _⟩
 have hl:=run_loadVar_row (P:=Try.prog) (w.alloc (.cells tcells 108)) w.heap.size 108 108 tcells (0,0) _ (heap_alloc_new w _) Try.underlying108 rfl (by kernel_rfl)
 exact results_cell Try.results59 _ _ rfl hl
end Go.Proofs.Ytnkkgofpifhoeaa.Pk
end
section
namespace Go.Proofs.Ytnkkgofpifhoeaa.Pk
open Go.RowKit Go.Proofs.Ytnkkgofpifhoeaa.nY Go.Proofs.Ytnkkgofpifhoeaa.Base Go.Proofs.Ytnkkgofpifhoeaa.Num Go.Proofs.YtnkkgofpifhoeaaW.PrintWords Go.Proofs.YtnkkgofpifhoeaaW.PrintLast
theorem ix1 (w:World):(Instr.index 108 table (.int .i64 1)).run Try.prog w = .ok (.agg #[.bool true,.bool false,.bool false,.bool false,.int .i64 14,.int .i64 14]) w:=by kernel_rfl
theorem ix2 (w:World):(Instr.index 108 table (.int .i64 2)).run Try.prog w = .ok (.agg #[.bool true,.bool true,.bool false,.bool true,.int .i64 22,.int .i64 1021]) w:=by kernel_rfl
theorem ix3 (w:World):(Instr.index 108 table (.int .i64 3)).run Try.prog w = .ok (.agg #[.bool false,.bool true,.bool false,.bool false,.int .i64 17,.int .i64 17]) w:=by kernel_rfl
theorem ix4 (w:World):(Instr.index 108 table (.int .i64 4)).run Try.prog w = .ok (.agg #[.bool false,.bool true,.bool true,.bool false,.int .i64 41,.int .i64 41]) w:=by kernel_rfl
theorem Qw (mine AB yours seq AV stamp echo:Int) (zr zi:Nat) (A:Option Addr) (n c:Nat) (w:World) :
  Calls Try.prog 20 #[.agg #[.int .i64 1,.int .u32 mine,.int .u32 AB,.int .u32 yours,.int .u32 seq,.int .u32 AV,.int .u32 stamp,.int .u32 echo,.complex .f64 zr zi,.slice A n c]] w
   fun e w' => e = .returned (.int .i64 (if good1 mine AB yours seq AV stamp echo zr zi n = true then 0 else 101)) ∧ Below w.heap.size w w':=by
 have CP:=Try.underlying27
 have hix:=ix1
 cases hg:good1 mine AB yours seq AV stamp echo zr zi n
 all_goals
  have HG:=Lib.hid hg
  clear hg
  go_enter Try.func20,Try.ntmps20
  go_wp2_with fail
  have HB:=Lib.hid (heap_alloc_new w (.cells #[.int .i64 1,.int .u32 mine,.int .u32 AB,.int .u32 yours,.int .u32 seq,.int .u32 AV,.int .u32 stamp,.int .u32 echo,.complex .f64 zr zi,.slice A n c] 27))
  have HW:=Lib.hid (AZ ((Below.refl w.heap.size w).alloc (Nat.le_refl _) (.cells #[.int .i64 1,.int .u32 mine,.int .u32 AB,.int .u32 yours,.int .u32 seq,.int .u32 AV,.int .u32 stamp,.int .u32 echo,.complex .f64 zr zi,.slice A n c] 27)))
  refine BA (n:=7) (S:=fun w' => w'.heap[w.heap.size]? = some (.cells #[.int .i64 1,.int .u32 mine,.int .u32 AB,.int .u32 yours,.int .u32 seq,.int .u32 AV,.int .u32 stamp,.int .u32 echo,.complex .f64 zr zi,.slice A n c] 27 (0,0))) (ds:=[]) nO (by kernel_rfl) rfl rfl (HB.out) (fun hHeld => ?_)
  generalize (w.alloc (.cells #[.int .i64 1,.int .u32 mine,.int .u32 AB,.int .u32 yours,.int .u32 seq,.int .u32 AV,.int .u32 stamp,.int .u32 echo,.complex .f64 zr zi,.slice A n c] 27)).drew = w1 at HW hHeld ⊢
  refine tk 0 20 nP hHeld ?_ (hf:=by intro w' s0; have hc0:w'.cell? ⟨w.heap.size,0,none⟩ = some (.int .i64 1):=(AA s0 0).trans rfl; have hc1:w'.cell? ⟨w.heap.size,1,none⟩ = some (.int .u32 mine):=(AA s0 1).trans rfl; have hc2:w'.cell? ⟨w.heap.size,2,none⟩ = some (.int .u32 AB):=(AA s0 2).trans rfl; have hc3:w'.cell? ⟨w.heap.size,3,none⟩ = some (.int .u32 yours):=(AA s0 3).trans rfl; have hc4:w'.cell? ⟨w.heap.size,4,none⟩ = some (.int .u32 seq):=(AA s0 4).trans rfl; have hc5:w'.cell? ⟨w.heap.size,5,none⟩ = some (.int .u32 AV):=(AA s0 5).trans rfl; have hc6:w'.cell? ⟨w.heap.size,6,none⟩ = some (.int .u32 stamp):=(AA s0 6).trans rfl; have Xt:w'.cell? ⟨w.heap.size,7,none⟩ = some (.int .u32 echo):=(AA s0 7).trans rfl; have hc8:w'.cell? ⟨w.heap.size,8,none⟩ = some (.complex .f64 zr zi):=(AA s0 8).trans rfl; have Bh:w'.cell? ⟨w.heap.size,9,none⟩ = some (.slice A n c):=(AA s0 9).trans rfl; clear s0; go_simp; with_reducible rfl)
  refine pu 2 22 wG ?_
  refine tk 3 23 wH hHeld ?_ (hf:=by intro w' s0; have hc0:w'.cell? ⟨w.heap.size,0,none⟩ = some (.int .i64 1):=(AA s0 0).trans rfl; clear s0; go_simp; with_reducible rfl)
  refine on 1 (some 21) nR fun K hK => ?_
  refine BH Try.func59 (by kernel_rfl) rfl #[] (by rfl) rfl rfl (by (try simp only [List.map_toArray,List.map_cons,List.map_nil]); first | done | rfl) ?_
  refine (rows_any _).mono ?_
  rintro e w' ⟨rfl,hb⟩
  refine ⟨_,rfl,?_⟩
  have HW2:=Lib.hid (HW.out.trans (hb.mono HW.out.size))
  clear HW
  have HW:=HW2
  clear HW2
  have hs9:=(hb.block w.heap.size (AQ hHeld)).trans hHeld
  clear hb
  refine hK.out _ _ (hs9) (fun hHeld => ?_)
  clear hK K
  refine nm 21 ?_
  refine pu 4 24 nT ?_
  refine on 5 (some 25) nU fun K hK => ?_
  refine BH Try.func66 (by kernel_rfl) rfl #[.agg #[.int .i64 1,.int .u32 mine,.int .u32 AB,.int .u32 yours,.int .u32 seq,.int .u32 AV,.int .u32 stamp,.int .u32 echo,.complex .f64 zr zi,.slice A n c],.agg #[.bool true,.bool false,.bool false,.bool false,.int .i64 14,.int .i64 14]] (by rfl) rfl rfl (by (try simp only [List.map_toArray,List.map_cons,List.map_nil]); first | done | rfl) ?_
  refine (TM _ _ _ _ _ _ _ zr zi A n c _).mono ?_
  rintro e w' ⟨rfl,hb⟩
  refine ⟨_,rfl,?_⟩
  have HW2:=Lib.hid (HW.out.trans (hb.mono HW.out.size))
  clear HW
  have HW:=HW2
  clear HW2
  have hs9:=(hb.block w.heap.size (AQ hHeld)).trans hHeld
  clear hb
  rw [HG.out]
  refine hK.out _ _ (hs9) (fun hHeld => ?_)
  clear hK K
  refine nm 25 ?_
  refine pu 6 26 nV ?_
  refine BG (by kernel_rfl) ?_
  go_wp2
  go_ret
  exact ⟨rfl,HW.out⟩
theorem TN (mine AB yours seq AV stamp echo:Int) (zr zi:Nat) (A:Option Addr) (n c:Nat) (w:World) (hn:n ≤ 1000) :
  Calls Try.prog 20 #[.agg #[.int .i64 2,.int .u32 mine,.int .u32 AB,.int .u32 yours,.int .u32 seq,.int .u32 AV,.int .u32 stamp,.int .u32 echo,.complex .f64 zr zi,.slice A n c]] w
   fun e w' => e = .returned (.int .i64 (if I5 mine AB yours stamp echo zr zi n = true then 0 else 101)) ∧ Below w.heap.size w w':=by
 have CP:=Try.underlying27
 have hix:=ix2
 cases hg:I5 mine AB yours stamp echo zr zi n
 all_goals
  have HG:=Lib.hid hg
  clear hg
  go_enter Try.func20,Try.ntmps20
  go_wp2_with fail
  have HB:=Lib.hid (heap_alloc_new w (.cells #[.int .i64 2,.int .u32 mine,.int .u32 AB,.int .u32 yours,.int .u32 seq,.int .u32 AV,.int .u32 stamp,.int .u32 echo,.complex .f64 zr zi,.slice A n c] 27))
  have HW:=Lib.hid (AZ ((Below.refl w.heap.size w).alloc (Nat.le_refl _) (.cells #[.int .i64 2,.int .u32 mine,.int .u32 AB,.int .u32 yours,.int .u32 seq,.int .u32 AV,.int .u32 stamp,.int .u32 echo,.complex .f64 zr zi,.slice A n c] 27)))
  refine BA (n:=7) (S:=fun w' => w'.heap[w.heap.size]? = some (.cells #[.int .i64 2,.int .u32 mine,.int .u32 AB,.int .u32 yours,.int .u32 seq,.int .u32 AV,.int .u32 stamp,.int .u32 echo,.complex .f64 zr zi,.slice A n c] 27 (0,0))) (ds:=[]) nO (by kernel_rfl) rfl rfl (HB.out) (fun hHeld => ?_)
  generalize (w.alloc (.cells #[.int .i64 2,.int .u32 mine,.int .u32 AB,.int .u32 yours,.int .u32 seq,.int .u32 AV,.int .u32 stamp,.int .u32 echo,.complex .f64 zr zi,.slice A n c] 27)).drew = w1 at HW hHeld ⊢
  refine tk 0 20 nP hHeld ?_ (hf:=by intro w' s0; have hc0:w'.cell? ⟨w.heap.size,0,none⟩ = some (.int .i64 2):=(AA s0 0).trans rfl; have hc1:w'.cell? ⟨w.heap.size,1,none⟩ = some (.int .u32 mine):=(AA s0 1).trans rfl; have hc2:w'.cell? ⟨w.heap.size,2,none⟩ = some (.int .u32 AB):=(AA s0 2).trans rfl; have hc3:w'.cell? ⟨w.heap.size,3,none⟩ = some (.int .u32 yours):=(AA s0 3).trans rfl; have hc4:w'.cell? ⟨w.heap.size,4,none⟩ = some (.int .u32 seq):=(AA s0 4).trans rfl; have hc5:w'.cell? ⟨w.heap.size,5,none⟩ = some (.int .u32 AV):=(AA s0 5).trans rfl; have hc6:w'.cell? ⟨w.heap.size,6,none⟩ = some (.int .u32 stamp):=(AA s0 6).trans rfl; have Xt:w'.cell? ⟨w.heap.size,7,none⟩ = some (.int .u32 echo):=(AA s0 7).trans rfl; have hc8:w'.cell? ⟨w.heap.size,8,none⟩ = some (.complex .f64 zr zi):=(AA s0 8).trans rfl; have Bh:w'.cell? ⟨w.heap.size,9,none⟩ = some (.slice A n c):=(AA s0 9).trans rfl; clear s0; go_simp; with_reducible rfl)
  refine pu 2 22 wG ?_
  refine tk 3 23 wH hHeld ?_ (hf:=by intro w' s0; have hc0:w'.cell? ⟨w.heap.size,0,none⟩ = some (.int .i64 2):=(AA s0 0).trans rfl; clear s0; go_simp; with_reducible rfl)
  refine on 1 (some 21) nR fun K hK => ?_
  refine BH Try.func59 (by kernel_rfl) rfl #[] (by rfl) rfl rfl (by (try simp only [List.map_toArray,List.map_cons,List.map_nil]); first | done | rfl) ?_
  refine (rows_any _).mono ?_
  rintro e w' ⟨rfl,hb⟩
  refine ⟨_,rfl,?_⟩
  have HW2:=Lib.hid (HW.out.trans (hb.mono HW.out.size))
  clear HW
  have HW:=HW2
  clear HW2
  have hs9:=(hb.block w.heap.size (AQ hHeld)).trans hHeld
  clear hb
  refine hK.out _ _ (hs9) (fun hHeld => ?_)
  clear hK K
  refine nm 21 ?_
  refine pu 4 24 nT ?_
  refine on 5 (some 25) nU fun K hK => ?_
  refine BH Try.func66 (by kernel_rfl) rfl #[.agg #[.int .i64 2,.int .u32 mine,.int .u32 AB,.int .u32 yours,.int .u32 seq,.int .u32 AV,.int .u32 stamp,.int .u32 echo,.complex .f64 zr zi,.slice A n c],.agg #[.bool true,.bool true,.bool false,.bool true,.int .i64 22,.int .i64 1021]] (by rfl) rfl rfl (by (try simp only [List.map_toArray,List.map_cons,List.map_nil]); first | done | rfl) ?_
  refine (WI _ _ _ _ _ _ _ zr zi A n c _).mono ?_
  rintro e w' ⟨rfl,hb⟩
  refine ⟨_,rfl,?_⟩
  have HW2:=Lib.hid (HW.out.trans (hb.mono HW.out.size))
  clear HW
  have HW:=HW2
  clear HW2
  have hs9:=(hb.block w.heap.size (AQ hHeld)).trans hHeld
  clear hb
  rw [HG.out]
  refine hK.out _ _ (hs9) (fun hHeld => ?_)
  clear hK K
  refine nm 25 ?_
  refine pu 6 26 nV ?_
  refine BG (by kernel_rfl) ?_
  go_wp2
  go_ret
  exact ⟨rfl,HW.out⟩
theorem WL (mine AB yours seq AV stamp echo:Int) (zr zi:Nat) (A:Option Addr) (n c:Nat) (w:World) :
  Calls Try.prog 20 #[.agg #[.int .i64 3,.int .u32 mine,.int .u32 AB,.int .u32 yours,.int .u32 seq,.int .u32 AV,.int .u32 stamp,.int .u32 echo,.complex .f64 zr zi,.slice A n c]] w
   fun e w' => e = .returned (.int .i64 (if I7 mine AB yours seq stamp echo zr zi n = true then 0 else 101)) ∧ Below w.heap.size w w':=by
 have CP:=Try.underlying27
 have hix:=ix3
 cases hg:I7 mine AB yours seq stamp echo zr zi n
 all_goals
  have HG:=Lib.hid hg
  clear hg
  go_enter Try.func20,Try.ntmps20
  go_wp2_with fail
  have HB:=Lib.hid (heap_alloc_new w (.cells #[.int .i64 3,.int .u32 mine,.int .u32 AB,.int .u32 yours,.int .u32 seq,.int .u32 AV,.int .u32 stamp,.int .u32 echo,.complex .f64 zr zi,.slice A n c] 27))
  have HW:=Lib.hid (AZ ((Below.refl w.heap.size w).alloc (Nat.le_refl _) (.cells #[.int .i64 3,.int .u32 mine,.int .u32 AB,.int .u32 yours,.int .u32 seq,.int .u32 AV,.int .u32 stamp,.int .u32 echo,.complex .f64 zr zi,.slice A n c] 27)))
  refine BA (n:=7) (S:=fun w' => w'.heap[w.heap.size]? = some (.cells #[.int .i64 3,.int .u32 mine,.int .u32 AB,.int .u32 yours,.int .u32 seq,.int .u32 AV,.int .u32 stamp,.int .u32 echo,.complex .f64 zr zi,.slice A n c] 27 (0,0))) (ds:=[]) nO (by kernel_rfl) rfl rfl (HB.out) (fun hHeld => ?_)
  generalize (w.alloc (.cells #[.int .i64 3,.int .u32 mine,.int .u32 AB,.int .u32 yours,.int .u32 seq,.int .u32 AV,.int .u32 stamp,.int .u32 echo,.complex .f64 zr zi,.slice A n c] 27)).drew = w1 at HW hHeld ⊢
  refine tk 0 20 nP hHeld ?_ (hf:=by intro w' s0; have hc0:w'.cell? ⟨w.heap.size,0,none⟩ = some (.int .i64 3):=(AA s0 0).trans rfl; have hc1:w'.cell? ⟨w.heap.size,1,none⟩ = some (.int .u32 mine):=(AA s0 1).trans rfl; have hc2:w'.cell? ⟨w.heap.size,2,none⟩ = some (.int .u32 AB):=(AA s0 2).trans rfl; have hc3:w'.cell? ⟨w.heap.size,3,none⟩ = some (.int .u32 yours):=(AA s0 3).trans rfl; have hc4:w'.cell? ⟨w.heap.size,4,none⟩ = some (.int .u32 seq):=(AA s0 4).trans rfl; have hc5:w'.cell? ⟨w.heap.size,5,none⟩ = some (.int .u32 AV):=(AA s0 5).trans rfl; have hc6:w'.cell? ⟨w.heap.size,6,none⟩ = some (.int .u32 stamp):=(AA s0 6).trans rfl; have Xt:w'.cell? ⟨w.heap.size,7,none⟩ = some (.int .u32 echo):=(AA s0 7).trans rfl; have hc8:w'.cell? ⟨w.heap.size,8,none⟩ = some (.complex .f64 zr zi):=(AA s0 8).trans rfl; have Bh:w'.cell? ⟨w.heap.size,9,none⟩ = some (.slice A n c):=(AA s0 9).trans rfl; clear s0; go_simp; with_reducible rfl)
  refine pu 2 22 wG ?_
  refine tk 3 23 wH hHeld ?_ (hf:=by intro w' s0; have hc0:w'.cell? ⟨w.heap.size,0,none⟩ = some (.int .i64 3):=(AA s0 0).trans rfl; clear s0; go_simp; with_reducible rfl)
  refine on 1 (some 21) nR fun K hK => ?_
  refine BH Try.func59 (by kernel_rfl) rfl #[] (by rfl) rfl rfl (by (try simp only [List.map_toArray,List.map_cons,List.map_nil]); first | done | rfl) ?_
  refine (rows_any _).mono ?_
  rintro e w' ⟨rfl,hb⟩
  refine ⟨_,rfl,?_⟩
  have HW2:=Lib.hid (HW.out.trans (hb.mono HW.out.size))
  clear HW
  have HW:=HW2
  clear HW2
  have hs9:=(hb.block w.heap.size (AQ hHeld)).trans hHeld
  clear hb
  refine hK.out _ _ (hs9) (fun hHeld => ?_)
  clear hK K
  refine nm 21 ?_
  refine pu 4 24 nT ?_
  refine on 5 (some 25) nU fun K hK => ?_
  refine BH Try.func66 (by kernel_rfl) rfl #[.agg #[.int .i64 3,.int .u32 mine,.int .u32 AB,.int .u32 yours,.int .u32 seq,.int .u32 AV,.int .u32 stamp,.int .u32 echo,.complex .f64 zr zi,.slice A n c],.agg #[.bool false,.bool true,.bool false,.bool false,.int .i64 17,.int .i64 17]] (by rfl) rfl rfl (by (try simp only [List.map_toArray,List.map_cons,List.map_nil]); first | done | rfl) ?_
  refine (YD _ _ _ _ _ _ _ zr zi A n c _).mono ?_
  rintro e w' ⟨rfl,hb⟩
  refine ⟨_,rfl,?_⟩
  have HW2:=Lib.hid (HW.out.trans (hb.mono HW.out.size))
  clear HW
  have HW:=HW2
  clear HW2
  have hs9:=(hb.block w.heap.size (AQ hHeld)).trans hHeld
  clear hb
  rw [HG.out]
  refine hK.out _ _ (hs9) (fun hHeld => ?_)
  clear hK K
  refine nm 25 ?_
  refine pu 6 26 nV ?_
  refine BG (by kernel_rfl) ?_
  go_wp2
  go_ret
  exact ⟨rfl,HW.out⟩
theorem TQ (mine AB yours seq AV stamp echo:Int) (zr zi:Nat) (A:Option Addr) (n c:Nat) (w:World) (hp:zr < 18446744073709551616) (hq:zi < 18446744073709551616) :
  Calls Try.prog 20 #[.agg #[.int .i64 4,.int .u32 mine,.int .u32 AB,.int .u32 yours,.int .u32 seq,.int .u32 AV,.int .u32 stamp,.int .u32 echo,.complex .f64 zr zi,.slice A n c]] w
   fun e w' => e = .returned (.int .i64 (if Jo mine AB yours seq zr zi n = true then 0 else 101)) ∧ Below w.heap.size w w':=by
 have CP:=Try.underlying27
 have hix:=ix4
 cases hg:Jo mine AB yours seq zr zi n
 all_goals
  have HG:=Lib.hid hg
  clear hg
  have HP:=Lib.hid hp
  have HQ:=Lib.hid hq
  clear hp hq
  go_enter Try.func20,Try.ntmps20
  go_wp2_with fail
  have HB:=Lib.hid (heap_alloc_new w (.cells #[.int .i64 4,.int .u32 mine,.int .u32 AB,.int .u32 yours,.int .u32 seq,.int .u32 AV,.int .u32 stamp,.int .u32 echo,.complex .f64 zr zi,.slice A n c] 27))
  have HW:=Lib.hid (AZ ((Below.refl w.heap.size w).alloc (Nat.le_refl _) (.cells #[.int .i64 4,.int .u32 mine,.int .u32 AB,.int .u32 yours,.int .u32 seq,.int .u32 AV,.int .u32 stamp,.int .u32 echo,.complex .f64 zr zi,.slice A n c] 27)))
  refine BA (n:=7) (S:=fun w' => w'.heap[w.heap.size]? = some (.cells #[.int .i64 4,.int .u32 mine,.int .u32 AB,.int .u32 yours,.int .u32 seq,.int .u32 AV,.int .u32 stamp,.int .u32 echo,.complex .f64 zr zi,.slice A n c] 27 (0,0))) (ds:=[]) nO (by kernel_rfl) rfl rfl (HB.out) (fun hHeld => ?_)
  generalize (w.alloc (.cells #[.int .i64 4,.int .u32 mine,.int .u32 AB,.int .u32 yours,.int .u32 seq,.int .u32 AV,.int .u32 stamp,.int .u32 echo,.complex .f64 zr zi,.slice A n c] 27)).drew = w1 at HW hHeld ⊢
  refine tk 0 20 nP hHeld ?_ (hf:=by intro w' s0; have hc0:w'.cell? ⟨w.heap.size,0,none⟩ = some (.int .i64 4):=(AA s0 0).trans rfl; have hc1:w'.cell? ⟨w.heap.size,1,none⟩ = some (.int .u32 mine):=(AA s0 1).trans rfl; have hc2:w'.cell? ⟨w.heap.size,2,none⟩ = some (.int .u32 AB):=(AA s0 2).trans rfl; have hc3:w'.cell? ⟨w.heap.size,3,none⟩ = some (.int .u32 yours):=(AA s0 3).trans rfl; have hc4:w'.cell? ⟨w.heap.size,4,none⟩ = some (.int .u32 seq):=(AA s0 4).trans rfl; have hc5:w'.cell? ⟨w.heap.size,5,none⟩ = some (.int .u32 AV):=(AA s0 5).trans rfl; have hc6:w'.cell? ⟨w.heap.size,6,none⟩ = some (.int .u32 stamp):=(AA s0 6).trans rfl; have Xt:w'.cell? ⟨w.heap.size,7,none⟩ = some (.int .u32 echo):=(AA s0 7).trans rfl; have hc8:w'.cell? ⟨w.heap.size,8,none⟩ = some (.complex .f64 zr zi):=(AA s0 8).trans rfl; have Bh:w'.cell? ⟨w.heap.size,9,none⟩ = some (.slice A n c):=(AA s0 9).trans rfl; clear s0; go_simp; with_reducible rfl)
  refine pu 2 22 wG ?_
  refine tk 3 23 wH hHeld ?_ (hf:=by intro w' s0; have hc0:w'.cell? ⟨w.heap.size,0,none⟩ = some (.int .i64 4):=(AA s0 0).trans rfl; clear s0; go_simp; with_reducible rfl)
  refine on 1 (some 21) nR fun K hK => ?_
  refine BH Try.func59 (by kernel_rfl) rfl #[] (by rfl) rfl rfl (by (try simp only [List.map_toArray,List.map_cons,List.map_nil]); first | done | rfl) ?_
  refine (rows_any _).mono ?_
  rintro e w' ⟨rfl,hb⟩
  refine ⟨_,rfl,?_⟩
  have HW2:=Lib.hid (HW.out.trans (hb.mono HW.out.size))
  clear HW
  have HW:=HW2
  clear HW2
  have hs9:=(hb.block w.heap.size (AQ hHeld)).trans hHeld
  clear hb
  refine hK.out _ _ (hs9) (fun hHeld => ?_)
  clear hK K
  refine nm 21 ?_
  refine pu 4 24 nT ?_
  refine on 5 (some 25) nU fun K hK => ?_
  refine BH Try.func66 (by kernel_rfl) rfl #[.agg #[.int .i64 4,.int .u32 mine,.int .u32 AB,.int .u32 yours,.int .u32 seq,.int .u32 AV,.int .u32 stamp,.int .u32 echo,.complex .f64 zr zi,.slice A n c],.agg #[.bool false,.bool true,.bool true,.bool false,.int .i64 41,.int .i64 41]] (by rfl) rfl rfl (by (try simp only [List.map_toArray,List.map_cons,List.map_nil]); first | done | rfl) ?_
  refine (WJ _ _ _ _ _ _ _ zr zi A n c _ HP.out HQ.out).mono ?_
  rintro e w' ⟨rfl,hb⟩
  refine ⟨_,rfl,?_⟩
  have HW2:=Lib.hid (HW.out.trans (hb.mono HW.out.size))
  clear HW
  have HW:=HW2
  clear HW2
  have hs9:=(hb.block w.heap.size (AQ hHeld)).trans hHeld
  clear hb
  rw [HG.out]
  refine hK.out _ _ (hs9) (fun hHeld => ?_)
  clear hK K
  refine nm 25 ?_
  refine pu 6 26 nV ?_
  refine BG (by kernel_rfl) ?_
  go_wp2
  go_ret
  exact ⟨rfl,HW.out⟩
def Bg (kind mine AB yours seq AV stamp echo:Int) (zr zi n:Nat):Int :=
 if kind = 1 then (if good1 mine AB yours seq AV stamp echo zr zi n = true then 0 else 101)
 else if kind = 2 then (if 1000 < n then 102 else if I5 mine AB yours stamp echo zr zi n = true then 0 else 101)
 else if kind = 3 then (if I7 mine AB yours seq stamp echo zr zi n = true then 0 else 101)
 else if kind = 4 then (if Jo mine AB yours seq zr zi n = true then 0 else 101)
 else 100
theorem TR (kind mine AB yours seq AV stamp echo:Int) (zr zi:Nat) (A:Option Addr) (n c:Nat) (w:World) (h:kind < 1) :
  Calls Try.prog 20 #[.agg #[.int .i64 kind,.int .u32 mine,.int .u32 AB,.int .u32 yours,.int .u32 seq,.int .u32 AV,.int .u32 stamp,.int .u32 echo,.complex .f64 zr zi,.slice A n c]] w
   fun e w' => e = .returned (.int .i64 100) ∧ Below w.heap.size w w':=by
 go_enter Try.func20,Try.ntmps20
 go_wp2
 go_ret
 exact ⟨rfl,(Below.refl w.heap.size w).alloc (Nat.le_refl _) _⟩
theorem TT (kind mine AB yours seq AV stamp echo:Int) (zr zi:Nat) (A:Option Addr) (n c:Nat) (w:World) (h:4 < kind) :
  Calls Try.prog 20 #[.agg #[.int .i64 kind,.int .u32 mine,.int .u32 AB,.int .u32 yours,.int .u32 seq,.int .u32 AV,.int .u32 stamp,.int .u32 echo,.complex .f64 zr zi,.slice A n c]] w
   fun e w' => e = .returned (.int .i64 100) ∧ Below w.heap.size w w':=by
 go_enter Try.func20,Try.ntmps20
 go_wp2
 go_ret
 exact ⟨rfl,(Below.refl w.heap.size w).alloc (Nat.le_refl _) _⟩
theorem TU (mine AB yours seq AV stamp echo:Int) (zr zi:Nat) (A:Option Addr) (n c:Nat) (w:World) (h:1000 < n) :
  Calls Try.prog 20 #[.agg #[.int .i64 2,.int .u32 mine,.int .u32 AB,.int .u32 yours,.int .u32 seq,.int .u32 AV,.int .u32 stamp,.int .u32 echo,.complex .f64 zr zi,.slice A n c]] w
   fun e w' => e = .returned (.int .i64 102) ∧ Below w.heap.size w w':=by
 go_enter Try.func20,Try.ntmps20
 go_wp2
 go_ret
 exact ⟨rfl,(Below.refl w.heap.size w).alloc (Nat.le_refl _) _⟩
theorem check_any (kind mine AB yours seq AV stamp echo:Int) (zr zi:Nat) (A:Option Addr) (n c:Nat) (w:World) (hp:zr < 18446744073709551616) (hq:zi < 18446744073709551616) :
  Calls Try.prog 20 #[.agg #[.int .i64 kind,.int .u32 mine,.int .u32 AB,.int .u32 yours,.int .u32 seq,.int .u32 AV,.int .u32 stamp,.int .u32 echo,.complex .f64 zr zi,.slice A n c]] w
   fun e w' => e = .returned (.int .i64 (Bg kind mine AB yours seq AV stamp echo zr zi n)) ∧ Below w.heap.size w w':=by
 unfold Bg
 by_cases h1:kind = 1
 ·subst h1
  rw [if_pos rfl]
  exact Qw mine AB yours seq AV stamp echo zr zi A n c w
 rw [if_neg h1]
 by_cases h2:kind = 2
 ·subst h2
  rw [if_pos rfl]
  by_cases hn:1000 < n
  ·rw [if_pos hn]
   exact TU mine AB yours seq AV stamp echo zr zi A n c w hn
  ·rw [if_neg hn]
   exact TN mine AB yours seq AV stamp echo zr zi A n c w (by omega)
 rw [if_neg h2]
 by_cases h3:kind = 3
 ·subst h3
  rw [if_pos rfl]
  exact WL mine AB yours seq AV stamp echo zr zi A n c w
 rw [if_neg h3]
 by_cases h4:kind = 4
 ·subst h4
  rw [if_pos rfl]
  exact TQ mine AB yours seq AV stamp echo zr zi A n c w hp hq
 rw [if_neg h4]
 by_cases h5:kind < 1
 ·exact TR kind mine AB yours seq AV stamp echo zr zi A n c w h5
 ·exact TT kind mine AB yours seq AV stamp echo zr zi A n c w (by omega)
end Go.Proofs.Ytnkkgofpifhoeaa.Pk
end
section
namespace Go.Proofs.Ytnkkgofpifhoeaa.Lk
open Go.RowKit Go.Proofs.Ytnkkgofpifhoeaa.Base Go.Proofs.Ytnkkgofpifhoeaa.Steps Go.Proofs.YtnkkgofpifhoeaaW.PrintWords Go.Proofs.YtnkkgofpifhoeaaW.PrintLast
structure TS (w:World) (B:Nat) (S:Nat → Prop) (g:Nat) (pc:Array Value) (Ak Aj okb:Nat → Prop) (L:Lk) (q o:Value) (hd up dn:Bool) (vb:Value) (body:List Int) (wz:World):Prop where
 at_:At wz B Ak Aj g L q o
 pb:wz.heap[w.heap.size]? = some (.cells pc 27 (0,0))
 tb:wz.heap[w.heap.size + 1]? = some (.cells #[.bool hd,.bool up,.bool dn,vb] 56 (0,0))
 kept:Kept w wz S
 below:Below B w wz
 far:∀ k,Ak k ∨ Aj k → (S k ∧ k < w.heap.size) ∨ w.heap.size + 2 ≤ k
 gS:S g
 jJ:g < w.heap.size
 Fp:(Kd.int .u8).R 5 wz B okb vb body
 okb:∀ k,okb k → w.heap.size + 2 ≤ k ∧ k < wz.heap.size ∧ ¬ Ak k ∧ ¬ Aj k
theorem Z55 {p:Prop} (h:p:=by
 have hs:(sizeOf (Try.prog.elem 45)).run Try.prog W = .ok 1 W:=by
  have:Try.prog.elem 45 = 22:=by kernel_rfl
  rw [this]
  obtain ⟨i0,hi0,_,hsz,_⟩:=info_parts info22
  go_simp
 rw [e,hs]
 rfl):p:=h
theorem Po (A:Option Addr) (n c k:Nat) (hk:k ≤ n) (hc:n ≤ c) (W:World):(Instr.slice 45 (.slice A n c) (some (.int .u32 (k:Int))) none none).run Try.prog W = .ok (.slice (if c = k then A else A.map (·.add (k * bytes.sz))) (n - k) (c - k)) W:=by
 have hu:Try.prog.underlying 45 = some (.slice (Try.prog.elem 45)):=by kernel_rfl
 have h1:(0:Int) ≤ k:=by omega
 have h2:(k:Int) ≤ n:=by omega
 have e:=run_slice_l (P:=Try.prog) W 45 A n c hu IntKind.u32 (k:Int) h1 h2
 exact Z55
def BR (L:Lk):Lk:={ L with expected:=IntKind.u32.wrap (L.expected + 1) }
def CZ (L:Lk) (k:Nat):Lk:={ L with queue:=L.queue.drop k,base:=IntKind.u32.wrap (L.base + k),sent:=L.sent - k,idle:=0 }
def Hy (L:Lk):Bz:=⟨3,L.token,L.AB,L.yours,0,L.expected,0,0,0,0,[]⟩
theorem FZ (x:Int):IntKind.u32.wrap x = x % 4294967296:=rfl
theorem wrap32 (x:Int):0 ≤ IntKind.u32.wrap x ∧ IntKind.u32.wrap x < 4294967296:=by rw [FZ]; omega
theorem MN {L:Lk} (h:L.Ok):(BR L).Ok:=⟨h.own,h.phase,h.token,h.AB,h.yours,h.queue,h.rows,h.sent,h.base,wrap32 _,h.idle,h.out⟩
theorem Jy {L:Lk} (h:L.Ok) {k:Nat} (hk:(k:Int) ≤ L.sent):(CZ L k).Ok:=by
 have:=h.sent
 have:=h.queue
 refine ⟨h.own,h.phase,h.token,h.AB,h.yours,by show (L.queue.drop k).length ≤ 64; simp; omega,fun r hr => h.rows r (List.mem_of_mem_drop hr),?_,wrap32 _,h.expected,by show 0 ≤ (0:Int) ∧ (0:Int) ≤ 1000; omega,h.out⟩
 show 0 ≤ L.sent - k ∧ L.sent - k ≤ ((L.queue.drop k).length:Int) ∧ L.sent - k ≤ 8
 simp
 omega
structure Bz.NT (p:Bz):Prop where
 mine:0 ≤ p.mine ∧ p.mine < 4294967296
 AB:0 ≤ p.AB ∧ p.AB < 4294967296
 yours:0 ≤ p.yours ∧ p.yours < 4294967296
 seq:0 ≤ p.seq ∧ p.seq < 4294967296
 AV:0 ≤ p.AV ∧ p.AV < 4294967296
 zr:p.zr < 18446744073709551616
 zi:p.zi < 18446744073709551616
theorem MO {L:Lk} (h:L.Ok) {b y:Int} (hb:0 ≤ b ∧ b < 4294967296) (hy:0 ≤ y ∧ y < 4294967296) (k:Bool):({ L with AB:=b,yours:=y,known:=k }:Lk).Ok :=
 ⟨h.own,h.phase,h.token,hb,hy,h.queue,h.rows,h.sent,h.base,h.expected,h.idle,h.out⟩
theorem Qx {L:Lk} (h:L.Ok) {b:Int} (hb:0 ≤ b ∧ b ≤ 2):({ L with phase:=b }:Lk).Ok :=
 ⟨h.own,hb,h.token,h.AB,h.yours,h.queue,h.rows,h.sent,h.base,h.expected,h.idle,h.out⟩
def EW (w:World) (B:Nat) (S:Nat → Prop) (g:Nat) (L:Lk) (hd up dn:Bool) (body:List Int) (e:Ending) (w':World):Prop :=
 ∃ vb okb,e = .returned (.tuple #[.agg #[.bool hd,.bool up,.bool dn,vb],.int .i64 0]) ∧ (Kd.int .u8).R 5 w' B okb vb body ∧ (∀ k,okb k → w.heap.size ≤ k ∧ k < w'.heap.size) ∧
  End w' B (fun k => S k ∨ (w.heap.size ≤ k ∧ k < w'.heap.size ∧ ¬ okb k)) g L ∧ Kept w w' S ∧ Below B w w'
section
variable {w wz:World} {B g:Nat} {S Ak Aj okb:Nat → Prop} {pc:Array Value} {L:Lk} {q o vb:Value} {hd up dn:Bool} {body:List Int}
theorem TS.start (h:At w B Ak Aj g L q o) (ho:∀ k,holds Ak Aj g k → S k) (hB:B ≤ w.heap.size) (hb:Below (w.heap.size + 2) ((w.alloc (.cells pc 27)).alloc (.cells #[.bool false,.bool false,.bool false,.slice none 0 0] 56)) wz) :
  TS w B S g pc Ak Aj (fun _ => False) L q o false false false (.slice none 0 0) [] wz:=by
 have hb0:Below w.heap.size w ((w.alloc (.cells pc 27)).alloc (.cells #[.bool false,.bool false,.bool false,.slice none 0 0] 56)):=((Below.refl _ _).alloc (Nat.le_refl _) _).alloc (by simp) _
 have hb1:Below w.heap.size w wz:=hb0.trans (hb.mono (by omega))
 have hs:(w.alloc (.cells pc 27)).heap.size = w.heap.size + 1:=by simp
 refine ⟨h.below hb1,?_,?_,Kept.of_below hb1 _,hb1.mono hB,fun k hk => .inl ⟨ho k (hk.elim .inl (fun x => .inr (.inl x))),(h.old k hk).1⟩,ho g (.inr (.inr rfl)),AQ h.blk,Kd.D5 _ _ _ _ _,fun k hk => hk.elim⟩
 ·refine (hb.block w.heap.size (by omega)).trans ?_
  refine Eq.trans (b:=(w.alloc (.cells pc 27)).heap[w.heap.size]?) ?_ (heap_alloc_new w _)
  exact Below.heap_alloc _ _ _ (by omega)
 ·refine (hb.block (w.heap.size + 1) (by omega)).trans ?_
  have:=heap_alloc_new (w.alloc (.cells pc 27)) (.cells #[.bool false,.bool false,.bool false,.slice none 0 0] 56)
  rwa [hs] at this
variable (h:TS w B S g pc Ak Aj okb L q o hd up dn vb body wz)
include h
theorem TS.size:w.heap.size + 2 ≤ wz.heap.size:=by have:=AQ h.tb; omega
theorem TS.sub {w2:World} (hB:B ≤ w.heap.size) (hb:Below wz.heap.size wz w2):TS w B S g pc Ak Aj okb L q o hd up dn vb body w2:=by
 have hs:=h.size
 exact ⟨h.at_.below hb,(hb.block _ (by omega)).trans h.pb,(hb.block _ (by omega)).trans h.tb,h.kept.below hb,h.below.trans (hb.mono (by omega)),h.far,h.gS,h.jJ,Kd.BJ h.Fp (Kept.of_below hb (fun _ => False)) (fun _ _ hf => hf),fun k hk => ⟨(h.okb k hk).1,Nat.lt_of_lt_of_le (h.okb k hk).2.1 hb.size,(h.okb k hk).2.2⟩⟩
theorem TS.drewN (hB:B ≤ w.heap.size) (n:Nat):TS w B S g pc Ak Aj okb L q o hd up dn vb body (wz.drewN n):=h.sub hB (Au (Below.refl _ _) n)
theorem TS.drew (hB:B ≤ w.heap.size):TS w B S g pc Ak Aj okb L q o hd up dn vb body wz.drew:=h.sub hB (AZ (Below.refl _ _))
theorem TS.jK:∀ k,holds Ak Aj g k → k ≠ w.heap.size + 1 ∧ k ≠ w.heap.size:=fun k hk => by
 have:=h.jJ
 rcases hk with hk | hk | hk
 ·rcases h.far k (.inl hk) with x | x <;> omega
 ·rcases h.far k (.inr hk) with x | x <;> omega
 ·omega
theorem TS.KQ {w2:World} {hd' up' qV:Bool} {yT:Value} {jL:Nat → Prop} {body':List Int} (hB:B ≤ w.heap.size) (hat:Go.Proofs.Ytnkkgofpifhoeaa.Steps.At (w.heap.size + 1) wz w2) (hc:w2.heap[w.heap.size + 1]? = some (.cells #[.bool hd',.bool up',.bool qV,yT] 56 (0,0)))
  (hR:(Kd.int .u8).R 5 wz B jL yT body') (qW:∀ k,jL k → w.heap.size + 2 ≤ k ∧ k < wz.heap.size ∧ ¬ Ak k ∧ ¬ Aj k):TS w B S g pc Ak Aj jL L q o hd' up' qV yT body' w2:=by
 have hs:=hat.size
 have hk:Kept wz w2 (fun k => k = w.heap.size + 1):=Dx hat
 refine ⟨h.at_.kept hk (fun k hh => (h.jK k hh).1),(hat.block _ (by omega)).trans h.pb,hc,h.kept.BQ hk (fun k hk => .inr (by omega)),hat.below h.below (by omega),h.far,h.gS,h.jJ,Kd.BJ hR hk (fun k hk => by have:=(qW k hk).1; omega),fun k hk => ?_⟩
 rw [hs]
 exact qW k hk
theorem TS.FM {hd' up' qV:Bool} (hB:B ≤ w.heap.size) (i:Nat) (u:Value) (e:(#[Value.bool hd,Value.bool up,Value.bool dn,vb]:Array Value).setIfInBounds i u = #[.bool hd',.bool up',.bool qV,vb]):TS w B S g pc Ak Aj okb L q o hd' up' qV vb body (wz.setCell ⟨w.heap.size + 1,i,none⟩ u) :=
 h.KQ hB (Steps.At.set (Steps.At.refl _ _) i u) (Af h.tb i u e) h.Fp h.okb
theorem TS.WM {w2:World} {Iz:Nat → Prop} {L':Lk} {q':Value} (hB:B ≤ w.heap.size) (hat:Go.Proofs.Ytnkkgofpifhoeaa.Steps.At g wz w2) (ha:At w2 B Iz Aj g L' q' o) (hq:∀ k,Iz k → Ak k):TS w B S g pc Iz Aj okb L' q' o hd up dn vb body w2:=by
 have hk:Kept wz w2 (fun k => k = g):=Dx hat
 have hg:=h.jJ
 refine ⟨ha,(hat.block _ (by omega)).trans h.pb,(hat.block _ (by omega)).trans h.tb,h.kept.BQ hk (fun k hk => .inl (hk ▸ h.gS)),hat.below h.below h.at_.low,fun k hk => h.far k (hk.elim (fun x => .inl (hq k x)) .inr),h.gS,h.jJ,Kd.BJ h.Fp hk (fun k hk => by have:=(h.okb k hk).1; omega),fun k hk => ?_⟩
 rw [hat.size]
 exact ⟨(h.okb k hk).1,(h.okb k hk).2.1,fun hx => (h.okb k hk).2.2.1 (hq k hx),(h.okb k hk).2.2.2⟩
theorem TS.ET {L':Lk} (hB:B ≤ w.heap.size) (i:Nat) (u:Value) (e:(row L q o).setIfInBounds i u = row L' q o) (hq:L'.queue = L.queue) (ho:L'.out = L.out):TS w B S g pc Ak Aj okb L' q o hd up dn vb body (wz.setCell ⟨g,i,none⟩ u) :=
 h.WM hB (Steps.At.set (Steps.At.refl _ _) i u) (h.at_.EP i u e hq ho) (fun _ x => x)
theorem TS.cut {A6 A7:Option Addr} {c6 qn kn:Nat} (hB:B ≤ w.heap.size) (hq:q = .slice A6 qn c6) (hk:kn ≤ L.queue.length) (hA:A7 = (if c6 = kn then A6 else A6.map (·.add (kn * bytes.sz)))) :
  TS w B S g pc Ak Aj okb { L with queue:=L.queue.drop kn } (.slice A7 (qn - kn) (c6 - kn)) o hd up dn vb body (wz.setCell ⟨g,6,none⟩ (.slice A7 (qn - kn) (c6 - kn))):=by
 subst hq hA
 exact h.WM hB (Steps.At.set (Steps.At.refl _ _) 6 _) (h.at_.put 6 _ rfl (Kd.iU h.at_.queue hk) h.at_.out h.at_.apart h.at_.old) (fun _ x => x)
theorem TS.grow {w2:World} {v1:Value} {ys:List Int} (hB:B ≤ w.heap.size) (hb:Below wz.heap.size wz w2) (hR:(Kd.int .u8).R 5 w2 B (fun k => wz.heap.size ≤ k) v1 ys):TS w B S g pc Ak Aj okb L q o hd up dn vb body w2 ∧
  (Kd.int .u8).R 5 w2 B (fun k => wz.heap.size ≤ k ∧ k < w2.heap.size) v1 ys ∧ ∀ k,(wz.heap.size ≤ k ∧ k < w2.heap.size) → w.heap.size + 2 ≤ k ∧ k < w2.heap.size ∧ ¬ Ak k ∧ ¬ Aj k:=by
 have hs:=h.size
 refine ⟨h.sub hB hb,Kd.BV (Kd.Du hR) (fun k hk => ⟨hk.1,hk.2.2.1⟩),fun k hk => ⟨by omega,hk.2,fun hx => ?_,fun hx => ?_⟩⟩
 ·have:=(h.at_.old k (.inl hx)).1; omega
 ·have:=(h.at_.old k (.inr hx)).1; omega
theorem TS.I8 {w2:World} {L':Lk} {q':Value} (hB:B ≤ w.heap.size) (he:CJ wz B Ak Aj g L' q' w2):∃ NP o',TS w B S g pc Ak NP okb L' q' o' hd up dn vb body w2:=by
 obtain ⟨o',a,k1,b1⟩:=he
 have hs:=h.size
 have hs1:=k1.1
 have hg:=h.jJ
 refine ⟨_,o',a,?_,?_,h.kept.BQ k1 (fun k hk => ?_),h.below.trans b1,fun k hk => ?_,h.gS,h.jJ,Kd.BJ h.Fp k1 (fun k hk hx => ?_),fun k hk => ⟨(h.okb k hk).1,by have:=(h.okb k hk).2.1; omega,(h.okb k hk).2.2.1,fun hx => ?_⟩⟩
 ·exact Ap h.pb k1 (fun hx => (h.jK _ (.inr hx)).2 rfl)
 ·exact Ap h.tb k1 (fun hx => (h.jK _ (.inr hx)).1 rfl)
 ·rcases hk with hk | hk
  ·rcases h.far k (.inr hk) with x | x
   ·exact .inl x.1
   ·exact .inr (by omega)
  ·exact .inl (hk ▸ h.gS)
 ·rcases hk with hk | hk | hk
  ·exact h.far k (.inl hk)
  ·exact h.far k (.inr hk)
  ·exact .inr (by omega)
 ·rcases hx with hx | hx
  ·exact (h.okb k hk).2.2.2 hx
  ·have:=(h.okb k hk).1; omega
 ·rcases hx with hx | hx
  ·exact (h.okb k hk).2.2.2 hx
  ·have:=(h.okb k hk).2.1; omega
theorem TS.ends:EW w B S g L hd up dn body (.returned (.tuple #[.agg #[.bool hd,.bool up,.bool dn,vb],.int .i64 0])) wz:=by
 refine ⟨vb,okb,rfl,h.Fp,fun k hk => ⟨by have:=(h.okb k hk).1; omega,(h.okb k hk).2.1⟩,⟨Ak,Aj,q,o,h.at_,fun k hk => ?_⟩,h.kept,h.below⟩
 rcases hk with hk | hk | hk
 ·rcases h.far k (.inl hk) with x | x
  ·exact .inl x.1
  ·exact .inr ⟨by omega,(h.at_.old k (.inl hk)).1,fun hx => (h.okb k hx).2.2.1 hk⟩
 ·rcases h.far k (.inr hk) with x | x
  ·exact .inl x.1
  ·exact .inr ⟨by omega,(h.at_.old k (.inr hk)).1,fun hx => (h.okb k hx).2.2.2 hk⟩
 ·exact .inl (hk ▸ h.gS)
end
end Go.Proofs.Ytnkkgofpifhoeaa.Lk
end
section
namespace Go.Proofs.Ytnkkgofpifhoeaa.yU
def Jump (P:Program) (c:Code) (Q:Exit → Act → World → Prop):Nat → Exit → Act → World → Prop
 | 0,.goto _,_,_ => False
 | n + 1,.goto l,a,w => ∃ rest,findLabel c l = some rest ∧ rest.wp P (Jump P c Q n) a w
 | _,.normal,a,w => Q .normal a w
 | _,.exit i,a,w => Q (.exit i) a w
 | _,.ret,a,w => Q .ret a w
 | _,.panic ch,a,w => Q (.panic ch) a w
 | _,.outgrown,a,w => Q .outgrown a w
section
variable {P:Program} {a:Act} {w:World} {Q:Exit → Act → World → Prop} {c:Code}
theorem Jump.ret {n:Nat} (h:Q .ret a w):Jump P c Q n .ret a w:=by cases n <;> exact h
theorem Jump.goto {n l:Nat} {C rest:Code} (hc:c = C) (hf:findLabel c l = some rest) (h:rest.wp P (Jump P C Q n) a w):Jump P C Q (n + 1) (.goto l) a w:=by
 subst hc
 exact ⟨rest,hf,h⟩
theorem Oc (n:Nat) (h:c.wp P (Jump P c Q n) a w):(Code.scope c).wp P Q a w:=by
 intro b k cs
 have hg:∀ l rest,findLabel c l = some rest → gotoIn l (.inScope c :: k) = some (.code rest :: .inScope c :: k):=by
  intro l rest hf
  simp [gotoIn,hf]
 have key:∀ n (x:Code) a w,x.wp P (Jump P c Q n) a w → ∃ e a' w',Q e a' w' ∧ Arrives P (lone (b.at a (.code x :: .inScope c :: k)) cs w) b k cs e a' w':=by
  intro n
  induction n with
  | zero =>
   intro x a w hx
   obtain ⟨e,a₁,w₁,hq,harr⟩:=hx b (.inScope c :: k) cs
   cases e with
   | normal => exact ⟨.normal,a₁,w₁,hq,Steps.trans harr (.one step_inScope)⟩
   | exit id => exact ⟨.exit id,a₁,w₁,hq,fun k' hk => harr k' (by simp [exitTo,hk])⟩
   | goto l' => exact hq.elim
   | ret => exact ⟨_,a₁,w₁,hq,harr⟩
   | panic ch => exact ⟨_,a₁,w₁,hq,harr⟩
   | outgrown => exact ⟨_,a₁,w₁,hq,harr⟩
  | succ n ih =>
   intro x a w hx
   obtain ⟨e,a₁,w₁,hq,harr⟩:=hx b (.inScope c :: k) cs
   cases e with
   | normal => exact ⟨.normal,a₁,w₁,hq,Steps.trans harr (.one step_inScope)⟩
   | exit id => exact ⟨.exit id,a₁,w₁,hq,fun k' hk => harr k' (by simp [exitTo,hk])⟩
   | goto l' =>
    obtain ⟨rest,hf,hr⟩:=hq
    obtain ⟨e₂,a₂,w₂,hq₂,harr₂⟩:=ih rest a₁ w₁ hr
    exact ⟨e₂,a₂,w₂,hq₂,.of_steps (harr _ (hg l' rest hf)) harr₂⟩
   | ret => exact ⟨_,a₁,w₁,hq,harr⟩
   | panic ch => exact ⟨_,a₁,w₁,hq,harr⟩
   | outgrown => exact ⟨_,a₁,w₁,hq,harr⟩
 obtain ⟨e,a₁,w₁,hq,harr⟩:=key n c a w h
 cases e with
 | normal => exact ⟨.normal,a₁,w₁,hq,.head step_scope harr⟩
 | exit id => exact ⟨.exit id,a₁,w₁,hq,fun k' hk => .head step_scope (harr k' hk)⟩
 | goto l' =>
  refine ⟨.goto l',a₁,w₁,hq,fun k' hk => .head step_scope (harr k' hk)⟩
 | ret => exact ⟨_,a₁,w₁,hq,.of_steps (.one step_scope) harr⟩
 | panic ch => exact ⟨_,a₁,w₁,hq,.of_steps (.one step_scope) harr⟩
 | outgrown => exact ⟨_,a₁,w₁,hq,.of_steps (.one step_scope) harr⟩
theorem BF (n:Nat) (h:∀ C,RowKit.Hid (c = C) → c.wp P (Jump P C Q n) a w):(Code.scope c).wp P Q a w:=Oc n (h c (Lib.hid rfl))
end
end Go.Proofs.Ytnkkgofpifhoeaa.yU
end
section
namespace Go.Proofs.YtnkkgofpifhoeaaW.PrintWords
open Go.RowKit
section
variable {P:Program} {ops:Array Oper} {rest:List Oper} {o:Oper} {a:Act} {Q:Exit → Act → World → Prop} {W:World}
theorem Dl (hw:Region.wanted o (yielded ops a.tmps) = true) (h:wpList P ops Q ({ o with guard:=none } :: rest) a W):wpList P ops Q (o :: rest) a W:=by
 have h1:Region.wanted { o with guard:=none } (yielded ops a.tmps) = true:=rfl
 unfold wpList at h ⊢
 rw [if_pos h1] at h
 rw [if_pos hw]
 exact h
end
end Go.Proofs.YtnkkgofpifhoeaaW.PrintWords
end
