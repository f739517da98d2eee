/- What the laws of a pair are proved with: links and pairs in memory, what their methods do, what a pair keeps to (part 22). -/
import Derived.Test.YtnkkgofpifhoeaaPF21
import Derived.Deep.MidRow
import Derived.Deep.LoopGhost
import Derived.ArgAppend
import Derived.LoopN
import Derived.Laws.StructEq
set_option linter.unusedSimpArgs false
set_option linter.unusedVariables false
set_option maxRecDepth 100000
set_option maxHeartbeats 16000000
section
namespace Go.Proofs.Ytnkkgofpifhoeaa.Pe
open Go.RowKit Go.Proofs.Ytnkkgofpifhoeaa.Base Go.Proofs.Ytnkkgofpifhoeaa.Steps Go.Proofs.Ytnkkgofpifhoeaa.Lk Go.Proofs.Ytnkkgofpifhoeaa.Ch Go.Proofs.Ytnkkgofpifhoeaa.Num Go.Proofs.Ytnkkgofpifhoeaa.Pv Go.Proofs.YtnkkgofpifhoeaaW.PrintWords Go.Proofs.YtnkkgofpifhoeaaW.PrintLast
def fresh (me:Nat) (AL:Int) (i:Nat):Ps:=⟨0,me,i,fun _ => ⟨EE (newL AL),0,0⟩,[]⟩
theorem KN {me i:Nat} {AL:Int} {a:Ad} {gp:Nat} (hm:i + 1 = me):(fresh me AL (i + 1)).has = (fresh me AL i).has:=by
 funext k
 unfold Ps.has fresh
 exact propext ⟨fun h => ⟨h.1,by have:=h.2.1; have:=h.2.2; simp only at *; omega,h.2.2⟩,fun h => ⟨h.1,by have:=h.2.1; simp only at *; omega,h.2.2⟩⟩
theorem BX.pass {w:World} {B gp:Nat} {n:Int} {a:Ad} {own:Nat → Nat → Prop} {v:Value} {me i:Nat} {AL:Int} (h:BX w B gp n a own (fresh me AL i) v) (hm:i + 1 = me):BX w B gp n a own (fresh me AL (i + 1)) v:=by
 have e:=KN (AL:=AL) (a:=a) (gp:=gp) hm
 have ef:∀ k,(fresh me AL (i + 1)).fix a gp k = (fresh me AL i).fix a gp k:=fun k => by unfold Ps.fix; rw [e]
 have ea:(fresh me AL (i + 1)).at_ a = (fresh me AL i).at_ a:=by
  funext k
  unfold Ps.at_ fresh
  by_cases hk:1 ≤ k ∧ k ≤ (i:Int) ∧ k ≠ (me:Int)
  ·rw [if_pos hk,if_pos ⟨hk.1,by have:=hk.2.1; simp only; omega,hk.2.2⟩]
  ·rw [if_neg hk,if_neg (fun hh => hk ⟨hh.1,by have:=hh.2.1; have:=hh.2.2; simp only at *; omega,hh.2.2⟩)]
 refine ⟨h.blk,ea ▸ h.map,fun k hk => h.pk k (e ▸ hk),fun k hk => h.e k (e ▸ hk),h.ev,h.ch,fun k hk => h.low k (ef k ▸ hk),fun i' j hi hj => h.inj i' j (e ▸ hi) (e ▸ hj),fun c k hk hf => h.apart c k hk (ef k ▸ hf),h.DY,h.lt⟩
theorem BX.add {wr w4 w5:World} {B gp b g:Nat} {n:Int} {a:Ad} {own:Nat → Nat → Prop} {v:Value} {me i:Nat} {AL:Int} {o:Nat → Prop} (h:BX wr B gp n a own (fresh me AL i) v) (hm:i + 1 ≠ me) (hb:Below wr.heap.size wr w4) (hE:Lk.End w4 B o g (EE (newL AL))) (ho:∀ k,o k → wr.heap.size ≤ k ∧ k < w4.heap.size)
  (hx:w4.heap[b]? = some (.cells (IB g ⟨EE (newL AL),0,0⟩) 172 (0,0))) (hbb:wr.heap.size ≤ b) (hob:¬ o b) (hM:Mp w5 a.r (fun j => if j = ((i + 1:Nat):Int) then some b else (fresh me AL i).at_ a j)) (hA:Steps.At a.r w4 w5) :
  BX w5 B gp n { a with gx:=fun k => if k = i + 1 then b else a.gx k,ge:=fun k => if k = i + 1 then g else a.ge k } (fun c k => own c k ∨ c = i + 2 ∧ o k) (fresh me AL (i + 1)) v:=by
 have h4:=h.sub hb
 have hz:=hb.size
 have hs5:=hA.size
 have hrl:a.r < wr.heap.size:=h.map.lt
 have hk:Kept w4 w5 (fun k => k = a.r):=⟨Nat.le_of_eq hA.size.symm,fun i _ hs => hA.block i hs⟩
 have hne:∀ c k,own c k → ¬ k = a.r:=fun c k hc hk => h.apart c k hc (.inr (.inl hk))
 have hor:∀ k,o k → ¬ k = a.r:=fun k hk he => by have:=ho k hk; omega
 have hhas:∀ k,(fresh me AL (i + 1)).has k → k = i + 1 ∨ (fresh me AL i).has k ∧ k ≠ i + 1:=fun k hk => by
  by_cases hki:k = i + 1
  ·exact .inl hki
  ·exact .inr ⟨⟨hk.1,by have:=hk.2.1; unfold fresh at *; simp only at *; omega,hk.2.2⟩,hki⟩
 have hgx:∀ k,(fresh me AL i).has k → a.gx k < wr.heap.size:=fun k hk => AU (h.pk k hk)
 have hni:¬ (fresh me AL i).has (i + 1):=fun hh => by have:=hh.2.1; unfold fresh at this; simp only at this; omega
 refine ⟨Ah h4.blk hk (fun e => h.WR e),?_,fun k hk' => ?_,fun k hk' => ?_,Kd.Az (Kd.BJ h4.ev hk (hne 0)) (fun _ hy => .inl hy),(h4.ch.kept hk (hne 1)).mono (fun _ hy => .inl hy),fun k hk' => ?_,fun k j hk' hj' he => ?_,fun c k hc hf => ?_,fun c d k hc hd => ?_,fun c k hc => ?_⟩
 ·obtain ⟨es,clk,hes,qp⟩:=hM
  refine ⟨es,clk,hes,fun j => ?_⟩
  have e:(fresh me AL (i + 1)).at_ { a with gx:=fun k => if k = i + 1 then b else a.gx k,ge:=fun k => if k = i + 1 then g else a.ge k } j = (if j = ((i + 1:Nat):Int) then some b else (fresh me AL i).at_ a j):=by
   unfold Ps.at_ fresh
   by_cases hj:j = ((i + 1:Nat):Int)
   ·subst hj
    rw [if_pos ⟨by omega,by simp only; omega,by simp only; omega⟩,if_pos rfl]
    simp
   ·rw [if_neg hj]
    by_cases hj2:1 ≤ j ∧ j ≤ (i:Int) ∧ j ≠ (me:Int)
    ·rw [if_pos hj2,if_pos ⟨hj2.1,by have:=hj2.2.1; simp only; omega,hj2.2.2⟩]
     simp only
     rw [if_neg (by omega)]
    ·rw [if_neg hj2,if_neg (fun hh => hj2 ⟨hh.1,by have:=hh.2.1; simp only at *; omega,hh.2.2⟩)]
  rw [e]
  exact qp j
 ·rcases hhas k hk' with rfl | ⟨hk2,hki⟩
  ·simp only [if_pos]
   exact Ah hx hk (fun e => by omega)
  ·simp only [if_neg hki]
   exact Ah (h4.pk k hk2) hk (h.YE hk2)
 ·rcases hhas k hk' with rfl | ⟨hk2,hki⟩
  ·simp only [if_pos]
   exact (hE.kept hk hor).mono (fun j hj => .inr ⟨by first | trivial | rfl,hj⟩)
  ·simp only [if_neg hki]
   exact ((h4.e k hk2).kept hk (hne _)).mono (fun _ hy => .inl hy)
 ·rcases hk' with hk' | hk' | ⟨j,hj,he⟩
  ·exact h.low k (.inl hk')
  ·exact h.low k (.inr (.inl hk'))
  ·rcases hhas j hj with rfl | ⟨hk2,hki⟩
   ·simp only [if_pos] at he
    have:=h.hB
    omega
   ·simp only [if_neg hki] at he
    exact h.low k (.inr (.inr ⟨j,hk2,he⟩))
 ·rcases hhas k hk' with rfl | ⟨hk2,hki⟩ <;> rcases hhas j hj' with rfl | ⟨hj2,hji⟩
  ·rfl
  ·simp only [if_pos,if_neg hji] at he
   have:=hgx j hj2; omega
  ·simp only [if_pos,if_neg hki] at he
   have:=hgx k hk2; omega
  ·simp only [if_neg hki,if_neg hji] at he
   exact h.inj k j hk2 hj2 he
 ·have hfix:(fresh me AL i).fix a gp k ∨ k = b:=by
   rcases hf with hf | hf | ⟨j,hj,he⟩
   ·exact .inl (.inl hf)
   ·exact .inl (.inr (.inl hf))
   ·rcases hhas j hj with rfl | ⟨hk2,hki⟩
    ·simp only [if_pos] at he; exact .inr he
    ·simp only [if_neg hki] at he; exact .inl (.inr (.inr ⟨j,hk2,he⟩))
  rcases hc with hc | ⟨_,hc⟩
  ·exact hfix.elim (h.apart c k hc) (fun e => by have:=h.lt c k hc; omega)
  ·exact hfix.elim (fun hx => by have:=h.MO k hx; have:=ho k hc; omega) (fun e => hob (e ▸ hc))
 ·rcases hc with hc | ⟨hc1,hc⟩ <;> rcases hd with hd | ⟨hd1,hd⟩
  ·exact h.DY c d k hc hd
  ·have:=h.lt c k hc; have:=ho k hd; omega
  ·have:=h.lt d k hd; have:=ho k hc; omega
  ·omega
 ·rcases hc with hc | ⟨_,hc⟩
  ·have:=h.lt c k hc; omega
  ·have:=ho k hc; omega
def NW (w:World) (B gp:Nat) (N me:Nat) (AL:Int) (i:Nat) (wr:World):Prop:=∃ a own,BX wr B gp N a own (fresh me AL i) (.slice none 0 0) ∧ (∀ k,Al (fresh me AL i) a gp own k → w.heap.size ≤ k) ∧ Below B w wr ∧ w.heap.size ≤ wr.heap.size
theorem NW.start {w w3:World} {B gc rc clk:Nat} {N me:Nat} {AL:Int} {p q:Nat} {es:Array MapEntry} (hB:B ≤ w.heap.size) (h3:Gj w3 gc rc p q #[] 0) (hp:p < 18446744073709551616) (hq:q < 18446744073709551616) (hpl:Ei p q = true) (hgc:w.heap.size ≤ gc) (hrc:w.heap.size ≤ rc) (hb:Below w.heap.size w w3) :
  NW w B (w3.heap.size + 1) N me AL 0 ((w3.alloc (.map #[] 0)).alloc (.cells #[.int .u32 0,.int .i64 me,.int .i64 N,.map (some w3.heap.size),.pointer (some ⟨gc,0,none⟩),.slice none 0 0] 169)):=by
 have hz:=hb.size
 have hg:=AU h3.blk
 have hr:=AU h3.map
 have hs:(w3.alloc (.map #[] 0)).heap.size = w3.heap.size + 1:=by simp
 have hb2:Below w3.heap.size w3 ((w3.alloc (.map #[] 0)).alloc (.cells #[.int .u32 0,.int .i64 me,.int .i64 N,.map (some w3.heap.size),.pointer (some ⟨gc,0,none⟩),.slice none 0 0] 169)):=((Below.refl _ _).alloc (Nat.le_refl _) _).alloc (by omega) _
 have hm0:=heap_alloc_new w3 (.map #[] 0)
 have hbm:Below (w3.alloc (.map #[] 0)).heap.size (w3.alloc (.map #[] 0)) ((w3.alloc (.map #[] 0)).alloc (.cells #[.int .u32 0,.int .i64 me,.int .i64 N,.map (some w3.heap.size),.pointer (some ⟨gc,0,none⟩),.slice none 0 0] 169)):=(Below.refl _ _).alloc (Nat.le_refl _) _
 have hblk:=heap_alloc_new (w3.alloc (.map #[] 0)) (.cells #[.int .u32 0,.int .i64 me,.int .i64 N,.map (some w3.heap.size),.pointer (some ⟨gc,0,none⟩),.slice none 0 0] 169)
 rw [hs] at hblk
 have hno:∀ k,¬ (fresh me AL 0).has k:=fun k hk => by have h1:=hk.1; have h2:=hk.2.1; unfold fresh at h2; simp only at h2; omega
 refine ⟨⟨w3.heap.size,gc,fun _ => 0,fun _ => 0⟩,fun c k => c = 1 ∧ (k = gc ∨ k = rc),⟨hblk,⟨#[],0,(hbm.block _ (show w3.heap.size < _ from by omega)).trans hm0,fun k => .inl ⟨Ps.Ja (fun hh => by have h1:=hh.1; have h2:=hh.2.1; unfold fresh at h2; simp only at h2; omega),rfl⟩⟩,fun k hk => (hno k hk).elim,fun k hk => (hno k hk).elim,Kd.CZ _ _ _ _ _,⟨rc,p,q,#[],0,h3.below hb2,hp,hq,hpl,⟨rfl,.inl rfl⟩,⟨rfl,.inr rfl⟩,(show B ≤ gc from by omega),(show B ≤ rc from by omega),fun x hx => by cases hx⟩,fun k hk => ?_,fun i j hi => (hno i hi).elim,fun c k hc hf => ?_,fun c d k hc hd => hc.1.trans hd.1.symm,fun c k hc => ?_⟩,fun k hk => ?_,(hb.mono hB).trans (hb2.mono (by omega)),Nat.le_trans hz hb2.size⟩
 ·rcases hk with hk | hk | ⟨j,hj,_⟩
  ·omega
  ·simp only at hk; omega
  ·exact (hno j hj).elim
 ·rcases hf with hf | hf | ⟨j,hj,_⟩
  ·rcases hc.2 with h | h <;> omega
  ·simp only at hf; rcases hc.2 with h | h <;> omega
  ·exact (hno j hj).elim
 ·have:=hb2.size
  rcases hc.2 with h | h <;> omega
 ·rcases hk with (hk | hk | ⟨j,hj,_⟩) | ⟨c,_,hk⟩
  ·omega
  ·simp only at hk; omega
  ·exact (hno j hj).elim
  ·rcases hk with h | h <;> omega
theorem Nv (me N:Nat) (AL:Int) (hN:1 ≤ N ∧ N ≤ 64) (hme:1 ≤ me ∧ me ≤ N) (hb:0 < AL ∧ AL < 4294967296) (w:World) (B:Nat) (hB:B ≤ w.heap.size):Calls Try.prog 50 #[.int .i64 me,.int .i64 N,.int .u32 AL] w fun e w' => ∃ gp,e = .returned (.tuple #[.pointer (some ⟨gp,0,none⟩),.int .i64 0]) ∧ NW w B gp N me AL N w':=by
 have hd1:decide ((N:Int) < 1) = false:=by simp; omega
 have hd2:decide ((N:Int) > 64) = false:=by simp; omega
 have hd3:decide ((me:Int) < 1) = false:=by simp; omega
 have hd4:decide ((me:Int) > (N:Int)) = false:=by simp; omega
 have hbz:(AL == 0) = false:=by simp; omega
 have hq0:(0:Int) ≤ (me:Int) * me:=Int.mul_nonneg (by omega) (by omega)
 have hq1:(me:Int) * me ≤ 4096:=by have h1:=Int.mul_le_mul (show (me:Int) ≤ 64 by omega) (show (me:Int) ≤ 64 by omega) (by omega) (by omega); omega
 have hd5:decide (N < me) = false:=by simp; omega
 have hnm:¬ N < me:=by omega
 have hfa:=VN (me:Int) (by omega)
 have hfb:=VN ((me:Int) * me % 11) (by omega)
 have qw:=Lib.hid (fun W => Ch.WQ (F me) (F ((me:Int) * me % 11)) hfa.2.2 hfb.2.2 (by unfold Ei; rw [hfa.1,hfb.1,hfa.2.1,hfb.2.1]; rfl) W)
 have fA:=Lib.hid (show F me < 18446744073709551616 ∧ F ((me:Int) * me % 11) < 18446744073709551616 ∧ Ei (F me) (F ((me:Int) * me % 11)) = true from ⟨hfa.2.2,hfb.2.2,by unfold Ei; rw [hfa.1,hfb.1,hfa.2.1,hfb.2.1]; rfl⟩)
 clear hfa hfb
 have hcv:=Uw
 have hmm:=fun (W:World) => run_makeMap (P:=Try.prog) 165 W
 have HN:=Lib.hid hN
 have uN:=Lib.hid hme
 have aV:=Lib.hid hb
 have HB:=Lib.hid hB
 clear hN hme hb hB
 go_enter Try.func50,Try.ntmps50
 go_wp2_with (go_at_call 22; (have hz:=qw.out w); (with_reducible refine hz.mono ?_); clear hz; rintro e w3 ⟨gc,rc,rfl,YG,hgc,hrc,hb3⟩; (have HS:=Lib.hid (NW.start (clk:=0) (es:=#[]) (N:=N) (me:=me) (AL:=AL) HB.out YG fA.out.1 fA.out.2.1 fA.out.2.2 hgc hrc hb3)); (clear YG hgc hrc hb3))
 generalize w3.heap.size + 1 = gp at *
 go_loopg [53] N (fun m q wr => ∃ i:Nat,m = N - i ∧ i ≤ N ∧ q = .int .i64 (i:Int) ∧ NW w B gp N me AL i wr)
 case atStart => exact ⟨0,rfl,Nat.zero_le _,rfl,HS.out⟩
 case round =>
  obtain ⟨wo,rfl⟩:∃ wo:World,wo = wr:=⟨_,rfl⟩
  obtain ⟨i,hm,hin,rfl,hF⟩:=hrel
  have HM:=Lib.hid hm
  have U2:=Lib.hid hin
  have HF:=Lib.hid hF
  clear hm hin hF HS
  have qx:=HN.out.2
  by_cases hlt:i < N
  ·have hd:decide ((i:Int) < (N:Int)) = true:=by simp [hlt]
   by_cases him:i + 1 = me
   ·have hq:((i:Int) + 1 == (me:Int)) = true:=by simp; omega
    go_wp2_with fail
    go_roundg (N - (i + 1))
    case measure => have:=HM.out; omega
    case rel =>
     obtain ⟨a,own,h1,h2,h3⟩:=HF.out
     exact ⟨i + 1,rfl,by omega,by first | rfl | simp,a,own,h1.pass him,fun k hk => h2 k (hk.elim (fun hf => .inl (by unfold Ps.fix at hf ⊢; rwa [KN (AL:=AL) (a:=a) (gp:=gp) him] at hf)) .inr),h3⟩
   ·have hq:((i:Int) + 1 == (me:Int)) = false:=by simp; omega
    obtain ⟨a,own,h1,h2,h3,h4⟩:=HF.out
    have H1:=Lib.hid h1
    have H2:=Lib.hid h2
    have H3:=Lib.hid h3
    have H4:=Lib.hid h4
    have qy:=Lib.hid him
    clear h1 h2 h3 h4 him
    go_wp2_with (first | (go_at_call 26; (have hz:=Lk.Nv AL aV.out wo B H1.out.hB); (with_reducible refine hz.mono ?_); clear hz; rintro e w6 ⟨rfl,Gi,hb6⟩; (have rC:=Lib.hid (show Lk.End w6 B (fun k => k = wo.heap.size) wo.heap.size (newL AL) from ⟨_,_,_,_,Gi,fun k hk => hk.elim (fun h => h.elim) (fun h => h.elim (fun h => h.elim) id)⟩)); (have rD:=Lib.hid (AU Gi.blk)); (have Qq:=Lib.hid hb6); (clear Gi hb6)) | (go_at_call 27; (have hz:=JX rC.out (Nat.le_trans H1.out.hB Qq.out.size) (O5 AL aV.out)); (with_reducible refine hz.mono ?_); clear hz; rintro e w7 ⟨rfl,ht⟩; (have aZ:=Lib.hid (show Below wo.heap.size wo w7 from ⟨ht.2.2.os.trans Qq.out.os,ht.2.2.tape.trans Qq.out.tape,ht.2.2.output.trans Qq.out.output,Nat.le_trans Qq.out.size ht.2.2.size,fun j hj => (ht.2.1.2 j (Nat.lt_of_lt_of_le hj Qq.out.size) (by omega)).trans (Qq.out.block j hj)⟩)); (have rE:=Lib.hid ht.1); (have hc3:w7.cell? ⟨gp,3,none⟩ = some (.map (some a.r)):=(AA (H1.out.sub aZ.out).blk 3).trans rfl); (have hb8:Below w7.heap.size w7 (w7.alloc (.cells #[.pointer (some ⟨wo.heap.size,0,none⟩),.int .i64 0,.int .u32 0] 172)):=(Below.refl _ _).alloc (Nat.le_refl _) _); (have jr:=ht.2.2.size); (have rF:=Lib.hid (show wo.heap.size < w7.heap.size from Nat.lt_of_lt_of_le rD.out jr)); (have YT:=Qq.out.size); (have fB:=Lib.hid (show wo.heap.size ≤ w6.heap.size from YT)); (obtain ⟨w9,hrun,Xy,Ht⟩:=Mp.put (x:=w7.heap.size) ((H1.out.sub aZ.out).sub hb8).map ((i:Int) + 1) (Ps.Ja (fun hh => by have h1:=hh.2.1; unfold fresh at h1; simp only at h1; omega))); (have rG:=Lib.hid Xy); (have EI:=Lib.hid Ht); (have WV:=Lib.hid hb8); (clear ht hb8 jr YT Xy Ht)))
    go_roundg (N - (i + 1))
    case measure => have:=HM.out; omega
    case rel =>
     have hs8:(w7.alloc (.cells #[.pointer (some ⟨wo.heap.size,0,none⟩),.int .i64 0,.int .u32 0] 172)).heap.size = w7.heap.size + 1:=by simp
     have hb48:=aZ.out.trans (WV.out.mono aZ.out.size)
     have JW:=rF.out
     have hz:=fB.out
     have hP:=H1.out.add qy.out hb48 (o:=fun k => k = wo.heap.size ∨ w6.heap.size ≤ k ∧ k < w7.heap.size) (rE.out.kept (Kept.of_below WV.out (fun _ => False)) (fun _ _ h => h)) (fun k hk => by rcases hk with hk | hk <;> omega) (heap_alloc_new w7 (.cells #[.pointer (some ⟨wo.heap.size,0,none⟩),.int .i64 0,.int .u32 0] 172)) (by omega) (fun hk => by rcases hk with hk | hk <;> omega) rG.out EI.out
     refine ⟨i + 1,rfl,by omega,by first | rfl | simp,_,_,hP,fun k hk => ?_,?_,?_⟩
     ·have h4:=H4.out
      rcases hk with (hk | hk | ⟨j,hj,he⟩) | ⟨c,hc | ⟨_,hc⟩⟩
      ·exact H2.out k (.inl (.inl hk))
      ·exact H2.out k (.inl (.inr (.inl hk)))
      ·by_cases hji:j = i + 1
       ·simp only [hji,if_pos] at he
        omega
       ·simp only [if_neg hji] at he
        exact H2.out k (.inl (.inr (.inr ⟨j,⟨hj.1,by have h1:=hj.2.1; unfold fresh at h1 ⊢; simp only at h1 ⊢; omega,hj.2.2⟩,he⟩)))
      ·exact H2.out k (.inr ⟨c,hc⟩)
      ·rcases hc with hc | hc <;> omega
     ·exact (H3.out.trans (hb48.mono H1.out.hB)).trans (EI.out.below (Below.refl _ _) (H1.out.low _ (.inr (.inl rfl))))
     ·have h1:=EI.out.size
      have h4:=H4.out
      omega
  ·have hd:decide ((i:Int) < (N:Int)) = false:=by simp; omega
   have hie:i = N:=by have:=U2.out; omega
   go_wp2_with fail
   go_ret2
   exact ⟨gp,rfl,hie ▸ HF.out⟩
end Go.Proofs.Ytnkkgofpifhoeaa.Pe
end
section
namespace Go.Proofs.Ytnkkgofpifhoeaa.Pe
open Go.RowKit Go.Proofs.Ytnkkgofpifhoeaa.Base Go.Proofs.Ytnkkgofpifhoeaa.Steps Go.Proofs.Ytnkkgofpifhoeaa.Lk Go.Proofs.YtnkkgofpifhoeaaW.PrintWords Go.Proofs.YtnkkgofpifhoeaaW.PrintLast
theorem OX (n:Int):Pk.BV (Pk.CJ n):=by
 rw [Pk.O3]
 intro c hc
 simp only [List.mem_cons,List.mem_singleton,List.not_mem_nil,or_false] at hc
 rcases hc with rfl | rfl | rfl | rfl <;> omega
theorem Ji (n:Int):Pk.BV (Pk.DU n):=by
 rw [Pk.O4]
 intro c hc
 simp only [List.mem_cons,List.mem_singleton,List.not_mem_nil,or_false] at hc
 rcases hc with rfl | rfl | rfl | rfl | rfl | rfl | rfl | rfl <;> omega
theorem BD {l m:List Int} (h:Pk.BV l) (k:Pk.BV m):Pk.BV (l ++ m):=fun c hc => (List.mem_append.1 hc).elim (h c) (k c)
theorem Ff {x:Int} (h:0 ≤ x ∧ x < 256):Pk.BV [x]:=fun c hc => by rw [List.mem_singleton.1 hc]; exact h
theorem Qd {p:BL} (h:Iy p):Pk.BV (EX p):=by
 have p4:∀ n,Pk.BV (p4 n):=fun n => OX _
 unfold EX
 split
 ·exact BD (BD (BD (BD (Ff (by decide)) (p4 _)) (p4 _)) (p4 _)) (Ff (by rw [IntKind.wrap_u8]; omega))
 split
 ·exact BD (BD (BD (BD (BD (BD (Ff (by decide)) (p4 _)) (p4 _)) (p4 _)) (p4 _)) (p4 _)) h.bytes
 split
 ·exact BD (BD (BD (BD (BD (Ff (by decide)) (p4 _)) (p4 _)) (p4 _)) (p4 _)) h.bytes
 ·exact BD (BD (BD (BD (BD (BD (BD (BD (BD (Ff (by decide)) (p4 _)) (p4 _)) (p4 _)) (p4 _)) (p4 _)) (p4 _)) (Ji _)) (Ji _)) h.bytes
structure PW (wr:World) (B gp:Nat) (U:Nat → Prop) (X:Ps):Prop where
 at_:∃ a own v,BX wr B gp X.nodes a own X v ∧ ∀ k,Al X a gp own k → U k
 lt:∀ k,U k → k < wr.heap.size
section
variable {wr w':World} {B gp:Nat} {U:Nat → Prop} {X:Ps} (h:PW wr B gp U X)
include h
theorem PW.kept {S:Nat → Prop} (hk:Kept wr w' S) (hS:∀ k,U k → ¬ S k):PW w' B gp U X:=by
 obtain ⟨a,own,v,h1,h2⟩:=h.at_
 exact ⟨⟨a,own,v,h1.kept hk (fun k hx => hS k (h2 k hx)),h2⟩,fun k hx => Nat.lt_of_lt_of_le (h.lt k hx) hk.1⟩
theorem PW.sub (hb:Below wr.heap.size wr w'):PW w' B gp U X:=h.kept (Kept.of_below hb (fun _ => False)) (fun _ _ x => x)
theorem TN (hn:X.nodes ≤ 64) (hg:GX X):Calls Try.prog 58 #[.pointer (some ⟨gp,0,none⟩)] wr fun e w' => ∃ v,e = .returned v ∧ LU.R 176 w' wr.heap.size (fun _ => True) v (Cm X X.nodes) ∧ PW w' B gp U (Bi X X.nodes) ∧ Kept wr w' U ∧ Below B wr w':=by
 obtain ⟨a,own,v,h1,h2⟩:=h.at_
 refine (Nw h1 hn (fun k hk p hp => (hg.wire k hk p hp).1) hg.len).mono fun e w' hq => ?_
 obtain ⟨v1,he,hO⟩:=hq
 have hs:=Bo X X.nodes
 refine ⟨v1,he,hO.row,⟨⟨a,own,v,by rw [hs.2.2.1]; exact hO.at_,fun k hk => h2 k ?_⟩,fun k hk => Nat.lt_of_lt_of_le (h.lt k hk) hO.kept.1⟩,hO.kept.mono h2,hO.below⟩
 exact (Jc (X:=X) (m:=k + 1) ⟨hs.2.1,hs.2.2.1⟩ (fun _ _ h => .inl h) k hk).elim id (fun h => by omega)
theorem PW.mv {w':World} {X':Ps} {a:Ad} {own:Nat → Nat → Prop} {v:Value} (h1:BX wr B gp X.nodes a own X v) (h2:∀ k,Al X a gp own k → U k) (hM:Mv wr B gp X.nodes a own X X' w'):PW w' B gp (more U wr w') X' ∧ Kept wr w' U ∧ Below B wr w':=by
 obtain ⟨own',v',g1,g2,g3,g4,g5⟩:=hM
 refine ⟨⟨⟨a,own',v',by rw [g5.2]; exact g1,fun k hk => ?_⟩,fun k hk => hk.elim (fun h0 => Nat.lt_of_lt_of_le (h.lt k h0) g3.1) (fun h0 => h0.2)⟩,g3.mono h2,g4⟩
 exact (Jc g5 g2 k hk).elim (fun h0 => .inl (h2 k h0)) (fun h0 => .inr ⟨h0,g1.Ux k hk⟩)
theorem PU (i:Nat) (hi:X.has i) (hg:GX X) (hl:X.evs.length ≤ 999990) {p:BL} (hp:Iy p) (hk4:p.kind ≠ 4) (A:Option Addr) (c:Nat) (hC:(Kd.int .u8).C wr A (EX p).length (EX p)) (hc:(EX p).length ≤ c) :
  Calls Try.prog 94 #[.pointer (some ⟨gp,0,none⟩),.int .i64 i,.int .u32 1,.slice A (EX p).length c] wr fun e w' => ∃ A7 c7,e = .returned (.tuple #[.slice A7 (BO (X.pn i).e 1 p).2.body.length c7,.int .i64 0]) ∧ (Kd.int .u8).C w' A7 (BO (X.pn i).e 1 p).2.body.length (BO (X.pn i).e 1 p).2.body ∧ PW w' B gp (more U wr w') (FB X i 1 p) ∧ Kept wr w' U ∧ Below B wr w':=by
 obtain ⟨a,own,v,h1,h2⟩:=h.at_
 refine (WX h1 i hi (hg i hi).1.ok hl 1 (by decide) p hp hk4 A c hC hc (Qd hp)).mono fun e w' hq => ?_
 obtain ⟨A7,c7,okb,he,hR,hM⟩:=hq
 exact ⟨A7,c7,he,(Kd.Dx hR).2.2,h.mv h1 h2 hM⟩
theorem U8 (i:Nat) (hi:X.has i) (hg:GX X) (hl:X.evs.length ≤ 1000000) (body:List Int) (A:Option Addr) (c:Nat) (hC:(Kd.int .u8).C wr A body.length body) :
  Calls Try.prog 51 #[.pointer (some ⟨gp,0,none⟩),.int .i64 i,.slice A body.length c] wr fun e w' => e = .returned (.int .i64 (Fb X i body)) ∧ PW w' B gp (more U wr w') (Cj X i body) ∧ Kept wr w' U ∧ Below B wr w':=by
 obtain ⟨a,own,v,h1,h2⟩:=h.at_
 exact (LH h1 i hi (hg i hi).1.ok hl body A c hC).mono fun e w' hq => ⟨hq.1,h.mv h1 h2 hq.2⟩
theorem Qe (k:Int) (hk:¬ (1 ≤ k ∧ k ≤ X.nodes ∧ k ≠ X.me)) (b:Value):Calls Try.prog 51 #[.pointer (some ⟨gp,0,none⟩),.int .i64 k,b] wr fun e w' => e = .returned (.int .i64 140) ∧ wr = w':=by
 obtain ⟨a,own,v,h1,h2⟩:=h.at_
 exact S9 h1 k hk b
theorem TP (i:Nat) (hi:X.has i):Calls Try.prog 54 #[.pointer (some ⟨gp,0,none⟩),.int .i64 i] wr fun e w' => e = .returned (.int .i64 (X.pn i).e.phase) ∧ wr = w':=by
 obtain ⟨a,own,v,h1,h2⟩:=h.at_
 exact Sv h1 i hi
theorem TQ (i:Nat) (hi:X.has i):Calls Try.prog 55 #[.pointer (some ⟨gp,0,none⟩),.int .i64 i] wr fun e w' => e = .returned (.int .i64 (X.pn i).e.queue.length) ∧ wr = w':=by
 obtain ⟨a,own,v,h1,h2⟩:=h.at_
 exact Sz h1 i hi
theorem Qg:Calls Try.prog 53 #[.pointer (some ⟨gp,0,none⟩)] wr fun e w' => ∃ v Xi U',e = .returned v ∧ UE.R 99 w' B Xi v X.evs ∧ (∀ k,Xi k → U k ∧ ¬ U' k) ∧ PW w' B gp U' { X with evs:=[] } ∧ (∀ k,U' k → U k) ∧ Kept wr w' U' ∧ Below B wr w':=by
 obtain ⟨a,own,v,h1,h2⟩:=h.at_
 refine (QW h1).mono fun e w' hq => ?_
 obtain ⟨he,hP,hR,hK,hb⟩:=hq
 have hz:=hK.1
 have hP':BX w' B gp X.nodes a (fun i k => i ≠ 0 ∧ own i k) { X with evs:=[] } (.slice none 0 0):=⟨hP.blk,hP.map,hP.pk,fun k hk => (hP.e k hk).mono (fun j hj => ⟨by omega,hj⟩),Kd.CZ _ _ _ _ _,hP.ch.mono (fun j hj => ⟨by decide,hj⟩),hP.low,hP.inj,fun i k hk => hP.apart i k hk.2,fun i j k hi hj => hP.DY i j k hi.2 hj.2,fun i k hk => hP.lt i k hk.2⟩
 have hal:∀ k,Al X a gp (fun i k => i ≠ 0 ∧ own i k) k → Al X a gp own k:=fun k hk => hk.imp_right (fun ⟨i,hi⟩ => ⟨i,hi.2⟩)
 refine ⟨v,own 0,Al X a gp (fun i k => i ≠ 0 ∧ own i k),he,hR,fun k hk => ⟨h2 k (.inr ⟨0,hk⟩),fun hx => ?_⟩,⟨⟨a,_,_,hP',fun k hk => hk⟩,fun k hk => hP'.Ux k hk⟩,fun k hk => h2 k (hal k hk),hK.mono (fun k hk => .inl (.inl hk)),hb⟩
 rcases hx with hx | ⟨i,hi,hx⟩
 ·exact h1.apart 0 k hk hx
 ·exact hi (h1.DY i 0 k hx hk)
end
theorem LY (me N:Nat) (hN:1 ≤ N ∧ N ≤ 64) (hme:1 ≤ me ∧ me ≤ N) (w:World):Calls Try.prog 50 #[.int .i64 me,.int .i64 N,.int .u32 1] w fun e w' => ∃ gp,e = .returned (.tuple #[.pointer (some ⟨gp,0,none⟩),.int .i64 0]) ∧ PW w' w.heap.size gp (fun k => w.heap.size ≤ k ∧ k < w'.heap.size) (fresh me 1 N) ∧ Below w.heap.size w w':=by
 refine (Nv me N 1 hN hme (by decide) w w.heap.size (Nat.le_refl _)).mono fun e w' hq => ?_
 obtain ⟨gp,he,a,own,h1,h2,h3,h4⟩:=hq
 exact ⟨gp,he,⟨⟨a,own,_,h1,fun k hk => ⟨h2 k hk,h1.Ux k hk⟩⟩,fun k hk => hk.2⟩,h3⟩
end Go.Proofs.Ytnkkgofpifhoeaa.Pe
end
section
namespace Go.Proofs.Ytnkkgofpifhoeaa.Pe
open Go.RowKit Go.Proofs.Ytnkkgofpifhoeaa.Base Go.Proofs.Ytnkkgofpifhoeaa.Steps Go.Proofs.Ytnkkgofpifhoeaa.Lk Go.Proofs.YtnkkgofpifhoeaaW.PrintWords
def Fz:Kd ByteArray:=Kd.scalar Value.string (fun _ => rfl)
def OY (i:Nat) (s:Ps × List (List Int)) (p:BL):Ps × List (List Int):=(FB s.1 i 1 p,s.2 ++ (if (BO (s.1.pn i).e 1 p).2.body.length = 0 then [] else [(BO (s.1.pn i).e 1 p).2.body]))
def Ee (i:Nat) (s:Ps × List (List Int)) (ps:List BL):Ps × List (List Int):=ps.foldl (OY i) s
theorem MX (i:Nat) (s:Ps × List (List Int)) (ps:List BL) (p:BL):Ee i s (ps ++ [p]) = OY i (Ee i s ps) p:=by
 unfold Ee
 rw [List.foldl_append]
 rfl
theorem D8 (i:Nat) (s:Ps × List (List Int)) (ps:List BL):(Ee i s ps).1.me = s.1.me ∧ (Ee i s ps).1.nodes = s.1.nodes ∧ (Ee i s ps).1.evs.length ≤ s.1.evs.length + 2 * ps.length:=by
 induction ps generalizing s with
 | nil => exact ⟨rfl,rfl,Nat.le_refl _⟩
 | cons p ps ih =>
  have h1:=ih (OY i s p)
  have h2:=Jh s.1 i 1 p
  refine ⟨h1.1.trans h2.1,h1.2.1.trans h2.2.1,?_⟩
  have h3:=h1.2.2
  have h4:=h2.2.2
  have e:(OY i s p).1.evs.length = (FB s.1 i 1 p).evs.length:=rfl
  rw [e] at h3
  show (Ee i (OY i s p) ps).1.evs.length ≤ _
  rw [List.length_cons]
  omega
theorem Ia (i:Nat) {s:Ps × List (List Int)} (h:GX s.1) {ps:List BL} (hp:∀ p ∈ ps,p.Good):GX (Ee i s ps).1:=by
 induction ps generalizing s with
 | nil => exact h
 | cons p ps ih => exact ih (s:=OY i s p) (h.take i (by decide) (hp p (List.mem_cons_self))) (fun q hq => hp q (List.mem_cons_of_mem _ hq))
theorem LZ (X:Ps) (k:Nat):∀ i,(Cm X i).filter (fun x => x.1 == (k:Int)) = if k ≤ i ∧ X.has k then FM k (X.pn k).e.out else []
 | 0 => by
  rw [if_neg (fun h => by have:=h.2.1; omega)]
  rfl
 | i + 1 => by
  have ih:=LZ X k i
  show (Cm X i ++ (if X.has (i + 1) then FM (i + 1) (X.pn (i + 1)).e.out else [])).filter _ = _
  rw [List.filter_append,ih]
  have hall:∀ (ps:List BL) (m:Nat),(FM m ps).filter (fun x => x.1 == (k:Int)) = if m = k then FM m ps else []:=fun ps m => by
   unfold FM
   induction ps with
   | nil => split <;> rfl
   | cons p ps rH =>
    rw [List.map_cons,List.filter_cons,rH]
    by_cases hm:m = k
    ·subst hm; simp
    ·have hn:((m:Int) == (k:Int)) = false:=by simp; omega
     simp [hn,hm]
  by_cases hx:X.has (i + 1)
  ·rw [if_pos hx,hall]
   by_cases hk:i + 1 = k
   ·subst hk
    rw [if_neg (fun h => by omega),if_pos rfl,if_pos ⟨Nat.le_refl _,hx⟩]
    rfl
   ·rw [if_neg hk,List.append_nil]
    by_cases h1:k ≤ i ∧ X.has k
    ·rw [if_pos h1,if_pos ⟨by omega,h1.2⟩]
    ·rw [if_neg h1,if_neg (fun h => h1 ⟨by omega,h.2⟩)]
  ·rw [if_neg hx]
   show _ ++ [] = _
   rw [List.append_nil]
   by_cases h1:k ≤ i ∧ X.has k
   ·rw [if_pos h1,if_pos ⟨by omega,h1.2⟩]
   ·have h2:¬ (k ≤ i + 1 ∧ X.has k):=fun hh => by
     by_cases he:k = i + 1
     ·subst he; exact hx hh.2
     ·exact h1 ⟨by omega,hh.2⟩
    rw [if_neg h1,if_neg h2]
structure SX (ww:World) (V:Nat → Prop) (b Bz gz By gy g9 g8:Nat) (Z Y:Ps) (x:Value) (L:List (Int × List Int)) (v vh:Value) (gs hs:List ByteArray) (cs:Array Value) (col:Nat → Nat → Prop) (wr:World):Prop where
 z:PW wr Bz gz (col 0) Z
 y:PW wr By gy (col 1) Y
 x:LU.R 176 wr b (col 2) x L
 g:Fz.R 9 wr b (col 3) v gs
 h:Fz.R 9 wr b (col 4) vh hs
 a9:wr.heap[g9]? = some (.cells cs 94 (0,0))
 a8:wr.heap[g8]? = some (.cells #[.slice none 0 0,.slice none 0 0] 94 (0,0))
 c9:col 5 g9
 c8:col 5 g8
 ne:g9 ≠ g8
 DY:∀ i j k,col i k → col j k → i = j
 lt:∀ i k,col i k → k < wr.heap.size
 kv:∀ k,V k → col 6 k ∧ wr.heap[k]? = ww.heap[k]?
section
variable {ww:World} {V:Nat → Prop} {b Bz gz By gy g9 g8:Nat} {Z Y Y':Ps} {x v vh v1:Value} {L:List (Int × List Int)} {gs hs gs':List ByteArray} {cs:Array Value} {col:Nat → Nat → Prop} {wr w' w1:World}
theorem SX.FZ (h:SX ww V b Bz gz By gy g9 g8 Z Y x L v vh gs hs cs col wr) (i:Nat):∀ c d k,grow col i wr w' c k → grow col i wr w' d k → c = d:=by
 intro c d k hb hc
 rcases hb with hb | hb <;> rcases hc with hc | hc
 ·exact h.DY c d k hb hc
 ·have:=h.lt c k hb; omega
 ·have:=h.lt d k hc; omega
 ·omega
theorem SX.Fj (h:SX ww V b Bz gz By gy g9 g8 Z Y x L v vh gs hs cs col wr) (i:Nat) (hs':wr.heap.size ≤ w'.heap.size):∀ c k,grow col i wr w' c k → k < w'.heap.size:=by
 intro c k hb
 rcases hb with hb | hb
 ·have:=h.lt c k hb; omega
 ·exact hb.2.2
theorem SX.take (h:SX ww V b Bz gz By gy g9 g8 Z Y x L v vh gs hs cs col wr) (hP:PW w' By gy (more (col 1) wr w') Y') (hk:Kept wr w' (col 1)):SX ww V b Bz gz By gy g9 g8 Z Y' x L v vh gs hs cs (grow col 1 wr w') w':=by
 have ap:∀ i,i ≠ 1 → ∀ k,col i k → ¬ col 1 k:=fun i hi k h1 h2 => hi (h.DY i 1 k h1 h2)
 have hz:=h.z.kept hk (ap 0 (by decide))
 obtain ⟨a0,o0,v0,e1,e2⟩:=hz.at_
 obtain ⟨a1,o1,v1',f1,f2⟩:=hP.at_
 exact ⟨⟨⟨a0,o0,v0,e1,fun k hk' => .inl (e2 k hk')⟩,fun k hk' => h.Fj 1 hk.1 0 k hk'⟩,⟨⟨a1,o1,v1',f1,fun k hk' => (f2 k hk').elim .inl (fun hn => .inr ⟨rfl,hn⟩)⟩,fun k hk' => h.Fj 1 hk.1 1 k hk'⟩,Kd.Az (Kd.BJ h.x hk (ap 2 (by decide))) (fun _ hy => .inl hy),Kd.Az (Kd.BJ h.g hk (ap 3 (by decide))) (fun _ hy => .inl hy),Kd.Az (Kd.BJ h.h hk (ap 4 (by decide))) (fun _ hy => .inl hy),Ah h.a9 hk (ap 5 (by decide) _ h.c9),Ah h.a8 hk (ap 5 (by decide) _ h.c8),.inl h.c9,.inl h.c8,h.ne,h.FZ 1,h.Fj 1 hk.1,fun k hv => ⟨.inl (h.kv k hv).1,(hk.2 k (h.lt 6 k (h.kv k hv).1) (ap 6 (by decide) k (h.kv k hv).1)).trans (h.kv k hv).2⟩⟩
theorem SX.app (h:SX ww V b Bz gz By gy g9 g8 Z Y x L v vh gs hs cs col wr) (hk:Kept wr w1 (col 3)) (hg:Fz.R 9 w1 b (fun k => col 3 k ∨ wr.heap.size ≤ k) v1 gs') (j:Nat) (hv:v1.oneCell' = true):SX ww V b Bz gz By gy g9 g8 Z Y x L v1 vh gs' hs (cs.setIfInBounds j v1) (grow col 3 wr w1) (w1.setCell ⟨g9,j,none⟩ v1):=by
 have ap:∀ i,i ≠ 3 → ∀ k,col i k → ¬ col 3 k:=fun i hi k h1 h2 => hi (h.DY i 3 k h1 h2)
 have hk2:Kept w1 (w1.setCell ⟨g9,j,none⟩ v1) (fun k => k = g9):=Kept.setCell (S:=fun k => k = g9) (Kept.refl w1 _) (p:=⟨g9,j,none⟩) (.inl rfl) v1
 have n9:∀ i,i ≠ 5 → ∀ k,col i k → ¬ k = g9:=fun i hi k h1 h2 => hi (h.DY i 5 k h1 (h2 ▸ h.c9))
 have Lh:=AU h.a9
 have hsz:(w1.setCell ⟨g9,j,none⟩ v1).heap.size = w1.heap.size:=by simp [World.setCell]
 have hz:=(h.z.kept hk (ap 0 (by decide))).kept hk2 (n9 0 (by decide))
 have hy:=(h.y.kept hk (ap 1 (by decide))).kept hk2 (n9 1 (by decide))
 obtain ⟨a0,o0,v0,e1,e2⟩:=hz.at_
 obtain ⟨a1,o1,v1',f1,f2⟩:=hy.at_
 have hlt:∀ c k,grow col 3 wr w1 c k → k < (w1.setCell ⟨g9,j,none⟩ v1).heap.size:=fun c k hc => by rw [hsz]; exact h.Fj 3 hk.1 c k hc
 refine ⟨⟨⟨a0,o0,v0,e1,fun k hk' => .inl (e2 k hk')⟩,hlt 0⟩,⟨⟨a1,o1,v1',f1,fun k hk' => .inl (f2 k hk')⟩,hlt 1⟩,Kd.Az (Kd.BJ (Kd.BJ h.x hk (ap 2 (by decide))) hk2 (n9 2 (by decide))) (fun _ hy => .inl hy),?_,Kd.Az (Kd.BJ (Kd.BJ h.h hk (ap 4 (by decide))) hk2 (n9 4 (by decide))) (fun _ hy => .inl hy),AQ (Ah h.a9 hk (ap 5 (by decide) _ h.c9)) j v1 rfl,Ah (Ah h.a8 hk (ap 5 (by decide) _ h.c8)) hk2 (fun e => h.ne e.symm),.inl h.c9,.inl h.c8,h.ne,h.FZ 3,hlt,fun k hv => ⟨.inl (h.kv k hv).1,(hk2.2 k (Nat.lt_of_lt_of_le (h.lt 6 k (h.kv k hv).1) hk.1) (n9 6 (by decide) k (h.kv k hv).1)).trans ((hk.2 k (h.lt 6 k (h.kv k hv).1) (ap 6 (by decide) k (h.kv k hv).1)).trans (h.kv k hv).2)⟩⟩
 refine Kd.Az (Kd.BJ (Kd.CG hg) hk2 (fun k hk' he => ?_)) (fun k hk' => hk'.1.elim .inl (fun hn => .inr ⟨rfl,hn,hk'.2.2.1⟩))
 rcases hk'.1 with h1 | h1
 ·exact n9 3 (by decide) k h1 he
 ·omega
end
end Go.Proofs.Ytnkkgofpifhoeaa.Pe
end
section
namespace Go.Proofs.Ytnkkgofpifhoeaa.Pe
open Go.RowKit Go.Proofs.Ytnkkgofpifhoeaa.Base Go.Proofs.Ytnkkgofpifhoeaa.Steps Go.Proofs.Ytnkkgofpifhoeaa.Lk Go.Proofs.YtnkkgofpifhoeaaW.PrintWords Go.Proofs.YtnkkgofpifhoeaaW.PrintLast
theorem info9:(Try.prog.info? 9).map (fun i => (i.zero,i.size,i.bytes)) = some (some (.string ⟨#[]⟩),1,16):=by kernel_rfl
def Gs:Int × List Int:=(0,[])
theorem KO {w:World} {b:Nat} {ok:Nat → Prop} {A:Option Addr} {m c:Nat} {L:List (Int × List Int)} (h:LU.R 176 w b ok (.slice A m c) L) (n:Nat) (hn:n < m) :
  ∃ g Ab cb,A = some ⟨g,0,none⟩ ∧ m = L.length ∧ w.cell? ⟨g,n * 2,none⟩ = some (.int .i64 (L.getD n Gs).1) ∧ w.cell? ⟨g,n * 2 + 1,none⟩ = some (.slice Ab (L.getD n Gs).2.length cb) ∧ (L.getD n Gs).2.length ≤ cb ∧ (Kd.int .u8).C w Ab (L.getD n Gs).2.length (L.getD n Gs).2:=by
 obtain ⟨hl,hnc,hC⟩:=Kd.Dx h
 obtain ⟨gx,cap,he,_⟩:=Kd.KZ h (by omega)
 injection he with h1 h2 h3
 subst h1
 obtain ⟨cs,hcl,hM,hc,_⟩:=Kd.Kq h Gs (n:Int) (by omega) (by omega)
 rw [Int.toNat_natCast] at hM hc
 obtain ⟨bv,hcs,hR⟩:=TC.1 hM
 obtain ⟨Ab,cb,hbv⟩:=Kd.BA hR
 subst hbv
 subst hcs
 have r:=Kd.Dx hR
 have h0:=hc 0 _ rfl
 have h1:=hc 1 _ rfl
 exact ⟨gx,Ab,cb,rfl,hl,h0,h1,r.2.1,r.2.2⟩
theorem PV (i:Nat) (s:Ps × List (List Int)) (ps:List BL):(Ee i s ps).2.length ≤ s.2.length + ps.length:=by
 induction ps generalizing s with
 | nil => exact Nat.le_refl _
 | cons p ps ih =>
  have h1:=ih (OY i s p)
  have h2:(OY i s p).2.length ≤ s.2.length + 1:=by
   show (s.2 ++ _).length ≤ _
   rw [List.length_append]
   split <;> simp
  show (Ee i (OY i s p) ps).2.length ≤ _
  rw [List.length_cons]
  omega
def LP (V:Nat → Prop) (w:World) (B0 b Bz gz By gy g9 g8:Nat) (Z:Ps) (i k:Nat) (s0:Ps × List (List Int)) (ps:List BL) (x:Value) (L:List (Int × List Int)) (vh:Value) (hs:List ByteArray) (mk:Value → Array Value) (n:Nat) (wr:World):Prop :=
 ∃ q v col,SX w V b Bz gz By gy g9 g8 Z (Ee i s0 (ps.take q)).1 x L v vh ((Ee i s0 (ps.take q)).2.map Go.strOfNums) hs (mk v) col wr ∧ (L.drop n).filter (fun x => x.1 == (k:Int)) = FM k (ps.drop q) ∧ q ≤ ps.length ∧ Below B0 w wr ∧ b ≤ wr.heap.size
theorem drop_at {L:List (Int × List Int)} {n:Nat} (h:n < L.length):L.drop n = L.getD n Gs :: L.drop (n + 1):=by
 rw [List.drop_eq_getElem_cons h,List.getD_eq_getElem?_getD,List.getElem?_eq_getElem h]
 rfl
theorem LP.next {V:Nat → Prop} {w wr:World} {B0 b Bz gz By gy g9 g8 i k n:Nat} {Z:Ps} {s0:Ps × List (List Int)} {ps:List BL} {x vh:Value} {L:List (Int × List Int)} {hs:List ByteArray} {mk:Value → Array Value} (h:LP V w B0 b Bz gz By gy g9 g8 Z i k s0 ps x L vh hs mk n wr) (hn:n < L.length) (hx:((L.getD n Gs).1 == (k:Int)) = false):LP V w B0 b Bz gz By gy g9 g8 Z i k s0 ps x L vh hs mk (n + 1) wr:=by
 obtain ⟨q,v,col,h1,h2,h3⟩:=h
 refine ⟨q,v,col,h1,?_,h3⟩
 rw [drop_at hn,List.filter_cons,hx] at h2
 simpa using h2
theorem TR {k n q:Nat} {ps:List BL} {L:List (Int × List Int)} (h:(L.drop n).filter (fun x => x.1 == (k:Int)) = FM k (ps.drop q)) (hn:n < L.length) (hx:((L.getD n Gs).1 == (k:Int)) = true) :
  q < ps.length ∧ L.getD n Gs = ((k:Int),EX (ps.getD q IE)) ∧ (L.drop (n + 1)).filter (fun x => x.1 == (k:Int)) = FM k (ps.drop (q + 1)):=by
 rw [drop_at hn,List.filter_cons,hx] at h
 simp only [if_true] at h
 by_cases hq:q < ps.length
 ·rw [List.drop_eq_getElem_cons hq] at h
  unfold FM at h
  rw [List.map_cons] at h
  injection h with h1 h2
  refine ⟨hq,?_,h2⟩
  rw [h1,List.getD_eq_getElem?_getD,List.getElem?_eq_getElem hq]
  rfl
 ·rw [show ps.drop q = [] from List.drop_eq_nil_of_le (by omega)] at h
  cases h
end Go.Proofs.Ytnkkgofpifhoeaa.Pe
end
section
namespace Go.Proofs.Ytnkkgofpifhoeaa.Pe
open Go.RowKit Go.Proofs.Ytnkkgofpifhoeaa.Base Go.Proofs.Ytnkkgofpifhoeaa.Steps Go.Proofs.Ytnkkgofpifhoeaa.Lk Go.Proofs.YtnkkgofpifhoeaaW.PrintWords
def U9:Array Value:=#[.slice none 0 0,.slice none 0 0]
theorem SX.start {ww w2 w3:World} {V:Nat → Prop} {b Ba ga Bb gb g9 g8:Nat} {UA UB:Nat → Prop} {XB af:Ps} {x:Value} {L:List (Int × List Int)} (hB:PW w2 Bb gb UB XB) (hap:∀ k,UA k → ¬ UB k) (hla:∀ k,UA k → k < w2.heap.size) (h9:w2.heap[g9]? = some (.cells U9 94 (0,0))) (h8:w2.heap[g8]? = some (.cells U9 94 (0,0))) (hne:g9 ≠ g8) (PX:∀ k,k = g9 ∨ k = g8 → ¬ UA k ∧ ¬ UB k)
  (hA:PW w3 Ba ga UA af) (hk:Kept w2 w3 UA) (hx:LU.R 176 w3 w2.heap.size (fun _ => True) x L) (hb:b ≤ w2.heap.size) (hV:∀ k,V k → k < w2.heap.size ∧ ¬ UA k ∧ ¬ UB k ∧ k ≠ g9 ∧ k ≠ g8 ∧ w2.heap[k]? = ww.heap[k]?):∃ col,SX ww V b Ba ga Bb gb g9 g8 af XB x L (.slice none 0 0) (.slice none 0 0) [] [] U9 col w3:=by
 have l9:=AU h9
 have l8:=AU h8
 have hz:=hk.1
 refine ⟨fun i k => (i = 0 ∧ UA k) ∨ (i = 1 ∧ UB k) ∨ (i = 2 ∧ w2.heap.size ≤ k ∧ k < w3.heap.size) ∨ (i = 5 ∧ (k = g9 ∨ k = g8)) ∨ (i = 6 ∧ V k),?_,?_,?_,Kd.CZ _ _ _ _ _,Kd.CZ _ _ _ _ _,Ah h9 hk (PX g9 (.inl rfl)).1,Ah h8 hk (PX g8 (.inr rfl)).1,.inr (.inr (.inr (.inl ⟨rfl,.inl rfl⟩))),.inr (.inr (.inr (.inl ⟨rfl,.inr rfl⟩))),hne,fun i j k hi hj => ?_,fun i k hi => ?_,fun k hk' => ⟨.inr (.inr (.inr (.inr ⟨rfl,hk'⟩))),(hk.2 k (hV k hk').1 (hV k hk').2.1).trans (hV k hk').2.2.2.2.2⟩⟩
 ·obtain ⟨a,o,v,e1,e2⟩:=hA.at_
  exact ⟨⟨a,o,v,e1,fun k hk' => .inl ⟨rfl,e2 k hk'⟩⟩,fun k hk' => by
   rcases hk' with h | h | h | h | h
   ·exact hA.lt k h.2
   ·omega
   ·omega
   ·omega
   ·omega⟩
 ·have hB':=hB.kept hk (fun k hb' ha' => hap k ha' hb')
  obtain ⟨a,o,v,e1,e2⟩:=hB'.at_
  exact ⟨⟨a,o,v,e1,fun k hk' => .inr (.inl ⟨rfl,e2 k hk'⟩)⟩,fun k hk' => by
   rcases hk' with h | h | h | h | h
   ·omega
   ·exact hB'.lt k h.2
   ·omega
   ·omega
   ·omega⟩
 ·exact Kd.Gf (Kd.Az (Kd.CG hx) (fun k hk' => .inr (.inr (.inl ⟨rfl,hk'.2.1,hk'.2.2.1⟩)))) hb
 ·have kB:UB k → k < w2.heap.size:=hB.lt k
  have kA:UA k → k < w2.heap.size:=hla k
  have kV:V k → k < w2.heap.size ∧ k ≠ g9 ∧ k ≠ g8:=fun hv => ⟨(hV k hv).1,(hV k hv).2.2.2.1,(hV k hv).2.2.2.2.1⟩
  rcases hi with ⟨hi,h1⟩ | ⟨hi,h1⟩ | ⟨hi,h1⟩ | ⟨hi,h1⟩ | ⟨hi,h1⟩ <;> rcases hj with ⟨hj,h2⟩ | ⟨hj,h2⟩ | ⟨hj,h2⟩ | ⟨hj,h2⟩ | ⟨hj,h2⟩ <;> first | omega | exact (hap k h1 h2).elim | exact (hap k h2 h1).elim | exact ((PX k h2).1 h1).elim | exact ((PX k h2).2 h1).elim | exact ((PX k h1).1 h2).elim | exact ((PX k h1).2 h2).elim | (exact ((hV k h2).2.1 h1).elim) | (exact ((hV k h2).2.2.1 h1).elim) | (exact ((hV k h1).2.1 h2).elim) | (exact ((hV k h1).2.2.1 h2).elim) | (have:=kA h1; omega) | (have:=kA h2; omega) | (have:=kB h1; omega) | (have:=kB h2; omega) | (have:=kV h1; omega) | (have:=kV h2; omega)
 ·rcases hi with ⟨hi,h1⟩ | ⟨hi,h1⟩ | ⟨hi,h1⟩ | ⟨hi,h1⟩ | ⟨hi,h1⟩
  ·exact hA.lt k h1
  ·have:=hB.lt k h1; omega
  ·exact h1.2
  ·rcases h1 with h | h <;> omega
  ·have:=(hV k h1).1; omega
theorem SX.turn {ww:World} {V:Nat → Prop} {b Bz gz By gy g9 g8:Nat} {Z Y Y':Ps} {x x' v vh:Value} {L L':List (Int × List Int)} {gs hs:List ByteArray} {cs:Array Value} {col:Nat → Nat → Prop} {wr w':World} (h:SX ww V b Bz gz By gy g9 g8 Z Y x L v vh gs hs cs col wr) (hP:PW w' By gy (col 1) Y') (hk:Kept wr w' (col 1)) (hx:LU.R 176 w' wr.heap.size (fun _ => True) x' L') (hb:b ≤ wr.heap.size) :
  ∃ fC,SX ww V b By gy Bz gz g9 g8 Y' Z x' L' (.slice none 0 0) v [] gs cs fC w':=by
 have ap:∀ i,i ≠ 1 → ∀ k,col i k → ¬ col 1 k:=fun i hi k h1 h2 => hi (h.DY i 1 k h1 h2)
 have hz:=hk.1
 have hlt:∀ i k,col i k → k < w'.heap.size:=fun i k hi => Nat.lt_of_lt_of_le (h.lt i k hi) hz
 refine ⟨fun i k => (i = 0 ∧ col 1 k) ∨ (i = 1 ∧ col 0 k) ∨ (i = 2 ∧ wr.heap.size ≤ k ∧ k < w'.heap.size) ∨ (i = 4 ∧ col 3 k) ∨ (i = 5 ∧ col 5 k) ∨ (i = 6 ∧ col 6 k),?_,?_,?_,Kd.CZ _ _ _ _ _,Kd.Az (Kd.BJ h.g hk (ap 3 (by decide))) (fun k hk' => .inr (.inr (.inr (.inl ⟨rfl,hk'⟩)))),Ah h.a9 hk (ap 5 (by decide) _ h.c9),Ah h.a8 hk (ap 5 (by decide) _ h.c8),.inr (.inr (.inr (.inr (.inl ⟨rfl,h.c9⟩)))),.inr (.inr (.inr (.inr (.inl ⟨rfl,h.c8⟩)))),h.ne,fun i j k hi hj => ?_,fun i k hi => ?_,fun k hv => ⟨.inr (.inr (.inr (.inr (.inr ⟨rfl,(h.kv k hv).1⟩)))),(hk.2 k (h.lt 6 k (h.kv k hv).1) (ap 6 (by decide) k (h.kv k hv).1)).trans (h.kv k hv).2⟩⟩
 ·obtain ⟨a,o,v0,e1,e2⟩:=hP.at_
  exact ⟨⟨a,o,v0,e1,fun k hk' => .inl ⟨rfl,e2 k hk'⟩⟩,fun k hk' => by
   rcases hk' with h | h | h | h | h | h
   ·exact hlt 1 k h.2
   ·omega
   ·omega
   ·omega
   ·omega
   ·omega⟩
 ·obtain ⟨a,o,v0,e1,e2⟩:=(h.z.kept hk (ap 0 (by decide))).at_
  exact ⟨⟨a,o,v0,e1,fun k hk' => .inr (.inl ⟨rfl,e2 k hk'⟩)⟩,fun k hk' => by
   rcases hk' with h | h | h | h | h | h
   ·omega
   ·exact hlt 0 k h.2
   ·omega
   ·omega
   ·omega
   ·omega⟩
 ·exact Kd.Gf (Kd.Az (Kd.CG hx) (fun k hk' => .inr (.inr (.inl ⟨rfl,hk'.2.1,hk'.2.2.1⟩)))) hb
 ·have key:∀ c d,col c k → col d k → c = d:=fun c d => h.DY c d k
  have kl:∀ c,col c k → k < wr.heap.size:=fun c => h.lt c k
  rcases hi with ⟨hi,h1⟩ | ⟨hi,h1⟩ | ⟨hi,h1⟩ | ⟨hi,h1⟩ | ⟨hi,h1⟩ | ⟨hi,h1⟩ <;> rcases hj with ⟨hj,h2⟩ | ⟨hj,h2⟩ | ⟨hj,h2⟩ | ⟨hj,h2⟩ | ⟨hj,h2⟩ | ⟨hj,h2⟩ <;> first | (subst hi hj; rfl) | (have:=key _ _ h1 h2; omega) | (have:=kl _ h1; omega) | (have:=kl _ h2; omega)
 ·rcases hi with ⟨hi,h1⟩ | ⟨hi,h1⟩ | ⟨hi,h1⟩ | ⟨hi,h1⟩ | ⟨hi,h1⟩ | ⟨hi,h1⟩
  ·exact hlt _ k h1
  ·exact hlt _ k h1
  ·exact h1.2
  ·exact hlt _ k h1
  ·exact hlt _ k h1
  ·exact hlt _ k h1
end Go.Proofs.Ytnkkgofpifhoeaa.Pe
end
