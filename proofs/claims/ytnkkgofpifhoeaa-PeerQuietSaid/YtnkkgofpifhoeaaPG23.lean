/- What the laws of a pair are proved with: links and pairs in memory, what their methods do, what a pair keeps to (part 23). -/
import Derived.Test.YtnkkgofpifhoeaaPG22
import Derived.Laws.StructEq
import Derived.ArgAppend
import Derived.Deep.LoopGhost
import Derived.Deep.QuietTactic
set_option linter.unusedSimpArgs false
set_option linter.unusedVariables false
set_option maxRecDepth 100000
set_option maxHeartbeats 16000000
namespace Go.Proofs.Ytnkkgofpifhoeaa
theorem Z3 {p:Prop} (h:p:=by
 have aW:=OI.out.drew
 have hSS:w3.drew.heap[a.gx p]? = some (.cells (Gy (a.ge p) (T.pn p)) 172 (0,0)) ∧ w3.drew.heap[gp]? = some (.cells (mrow T N a v3) 169 (0,0)):=HB3.out
 refine Aw (n:=18) (S:=fun w' => w'.heap[a.gx p]? = some (.cells (Gy (a.ge p) (T.pn p)) 172 (0,0)) ∧ w'.heap[gp]? = some (.cells (mrow T N a v3) 169 (0,0))) (ds:=[17]) sK (by kernel_rfl) rfl rfl (hSS) (fun hHeld => ?_)
 generalize w3.drew = w6 at aW hHeld ⊢
 have qR:=Lib.hid aW
 have qU:=Lib.hid aW.aX
 obtain ⟨zr,zi,hz1,hz2,hz3,qV⟩:=aW.aY
 have aZ:=Lib.hid (And.intro hz1 (And.intro hz2 hz3))
 have HOW:=Lib.hid qV
 clear aW hz1 hz2 hz3 qV
 refine pu 0 64 sN ?_
 refine pu 1 65 sO ?_
 refine pu 2 66 sQ ?_
 refine tk 3 67 sU hHeld ?_ (hf:=by intro w' s0; have hq0:w'.cell? ⟨a.gx p,0,none⟩ = some (.pointer (some ⟨a.ge p,0,none⟩)):=(AA s0.1 0).trans rfl; clear s0; go_simp; rfl)
 refine pu 4 68 sV ?_
 refine pu 5 69 sW ?_
 refine pu 6 70 su ?_
 refine pu 8 72 tC ?_
 refine pu 9 73 tH ?_
 refine pu 10 74 tJ ?_
 refine tk 11 75 tK hHeld ?_ (hf:=by intro w' s0; have hq2:w'.cell? ⟨a.gx p,2,none⟩ = some (.int .u32 (T.pn p).echo):=(AA s0.1 2).trans rfl; clear s0; go_simp; rfl)
 refine pu 12 76 tN ?_
 refine pu 13 77 tV ?_
 refine pu 14 78 tX ?_
 refine tk 15 79 tY hHeld ?_ (hf:=by intro w' s0; have hq4:w'.cell? ⟨gp,4,none⟩ = some (.pointer (some ⟨a.gc,0,none⟩)):=(AA s0.2 4).trans rfl; clear s0; go_simp; rfl)
 refine on 7 (some 71) tZ fun K hK => ?_
 refine BK Try.func97 (by kernel_rfl) rfl #[.pointer (some ⟨gp,0,none⟩)] (by rfl) rfl rfl (by (try simp only [List.map_toArray,List.map_cons,List.map_nil]); first | done | rfl) ?_
 refine (show Calls Try.prog 97 #[.pointer (some ⟨gp,0,none⟩)] w6 _ from qU.out).mono ?_
 rintro e w7 ⟨rfl,rfl⟩
 refine ⟨_,rfl,?_⟩
 refine hK.out _ _ hHeld (fun hHeld => ?_)
 clear hK K
 refine nm 71 ?_
 refine on 16 (some 80) tq fun K hK => ?_
 refine BK Try.func24 (by kernel_rfl) rfl #[.pointer (some ⟨a.gc,0,none⟩)] (by rfl) rfl rfl (by (try simp only [List.map_toArray,List.map_cons,List.map_nil]); first | done | rfl) ?_
 refine (show Calls Try.prog 24 #[.pointer (some ⟨a.gc,0,none⟩)] w6 _ from HOW.out).mono ?_
 rintro e w7 ⟨rfl,rfl⟩
 refine ⟨_,rfl,?_⟩
 refine hK.out _ _ hHeld (fun hHeld => ?_)
 clear hK K
 refine nm 80 ?_
 refine la 17 (some 81) tu fun K hK => ?_
 refine BK Try.func96 (by kernel_rfl) rfl #[.pointer (some ⟨a.ge p,0,none⟩),.int .u32 T.ticks,.int .u32 (T.pn p).echo,.complex .f64 zr zi] (by rfl) rfl rfl (by (try simp only [List.map_toArray,List.map_cons,List.map_nil]); first | done | rfl) ?_
 refine (show Calls Try.prog 96 #[.pointer (some ⟨a.ge p,0,none⟩),.int .u32 T.ticks,.int .u32 (T.pn p).echo,.complex .f64 zr zi] _ _ from qR.out.Yi HY.out lG.out Yj.out _ _ zr zi aZ.out.2.1 aZ.out.2.2).mono ?_
 rintro e w8 ⟨⟨v8,rfl⟩,qW⟩
 have zG:=Lib.hid qW
 clear qW
 refine ⟨_,rfl,?_⟩
 refine hK.out _ _ ?_
 clear hK K
 refine BN (by kernel_rfl) ?_
 clear hHeld qR qU HOW
 go_wp2_with fail
 go_roundg (N - (i + 1))
 case measure => have:=HM.out; omega
 case rel => exact ⟨i + 1,rfl,by omega,(by first | rfl | (have h:=ZM.out; simp; omega)),TN.next (i:=i) HZ.out lH.out aZ.out.1 aZ.out.2.1 aZ.out.2.2 (by have h:=Lr.out _ _ (show Mv wo B gp N a Dw Y (Dx zr zi Y p) w8 from F3.out _ _ _ Yj.out zG.out); rw [lI.out,ZM.out] at h; exact h)⟩):p:=h
theorem qX {p:Prop} (h:p:=by
 clear Ci hT1
 by_cases htp:(T.pn p).e.phase = 2
 ·have lJ:((T.pn p).e.phase == 2) = true:=by simp [htp]
  have Yj:=Lib.hid htp
  clear htp
  go_wp2_with (first | (go_at_call 29; (have hc:=ES.out); (with_reducible refine hc.mono ?_); clear hc; rintro e w9 ⟨rfl,rfl⟩) | (go_at_call 33; (have hc:=Si.out.ML HY.out WY.out); (with_reducible refine hc.mono ?_); clear hc; rintro e w3 ⟨rfl,JV⟩; (rw [HT.out] at JV); (have OI:=Lib.hid JV); (obtain ⟨v3,-,hb3,hp3⟩:=JV.cells HY.out); (have hx3:w3.cell? ⟨a.gx p,0,none⟩ = some (.pointer (some ⟨a.ge p,0,none⟩)):=(AA hb3 0).trans rfl); (have HB3:=Lib.hid (And.intro hb3 hp3)); (clear JV hb3 hp3)) | (go_at_call 29; (have hc:=OI.out.Ji HY.out); (with_reducible refine hc.mono ?_); clear hc; rintro e w9 ⟨rfl,rfl⟩))
  exact Z3
 ·have lJ:((T.pn p).e.phase == 2) = false:=by simp [htp]
  have Yj:=Lib.hid htp
  clear htp
  go_wp2_with (first | (go_at_call 29; (have hc:=ES.out); (with_reducible refine hc.mono ?_); clear hc; rintro e w9 ⟨rfl,rfl⟩) | (go_at_call 33; (have hc:=Si.out.ML HY.out WY.out); (with_reducible refine hc.mono ?_); clear hc; rintro e w3 ⟨rfl,JV⟩; (rw [HT.out] at JV); (have OI:=Lib.hid JV); (obtain ⟨v3,-,hb3,hp3⟩:=JV.cells HY.out); (have hx3:w3.cell? ⟨a.gx p,0,none⟩ = some (.pointer (some ⟨a.ge p,0,none⟩)):=(AA hb3 0).trans rfl); (have HB3:=Lib.hid (And.intro hb3 hp3)); (clear JV hb3 hp3)) | (go_at_call 29; (have hc:=OI.out.Ji HY.out); (with_reducible refine hc.mono ?_); clear hc; rintro e w9 ⟨rfl,rfl⟩))
  go_roundg (N - (i + 1))
  case measure => have:=HM.out; omega
  case rel => exact ⟨i + 1,rfl,by omega,(by first | rfl | (have h:=ZM.out; simp; omega)),TN.next (i:=i) HZ.out lH.out (p:=0) (q:=0) rfl (by decide) (by decide) (by have h:=Lr.out _ _ (show Mv wo B gp N a Dw Y (Dx 0 0 Y p) w3 from F2.out _ Yj.out OI.out); rw [lI.out,ZM.out] at h; exact h)⟩):p:=h
end Go.Proofs.Ytnkkgofpifhoeaa
section
namespace Go.Proofs.Ytnkkgofpifhoeaa.Pe
open Go.RowKit Go.Proofs.Ytnkkgofpifhoeaa.Base Go.Proofs.Ytnkkgofpifhoeaa.Steps Go.Proofs.Ytnkkgofpifhoeaa.Lk Go.Proofs.Ytnkkgofpifhoeaa.Ch Go.Proofs.Ytnkkgofpifhoeaa.Num Go.Proofs.YtnkkgofpifhoeaaW.PrintWords Go.Proofs.YtnkkgofpifhoeaaW.PrintLast
theorem WZ {w:World} {gp:Nat} {t:Int} (hc:w.cell? ⟨gp,0,none⟩ = some (.int .u32 t)) (hf:w.frozen? ⟨gp,0,none⟩ = false):Calls Try.prog 95 #[.pointer (some ⟨gp,0,none⟩)] w fun e w' => e = .returned (.tuple #[]) ∧ w' = w.setCell ⟨gp,0,none⟩ (.int .u32 ((t + 1) % 4294967296)):=by
 go_enter Try.func95,Try.ntmps95
 go_wp2
 go_end0
 exact ⟨rfl,by first | rfl | rw [GR]⟩
theorem U6 {w:World} {gp:Nat} {t:Int} (hc:w.cell? ⟨gp,0,none⟩ = some (.int .u32 t)):Calls Try.prog 97 #[.pointer (some ⟨gp,0,none⟩)] w fun e w' => e = .returned (.int .u32 t) ∧ w = w':=by
 go_enter Try.func97,Try.ntmps97
 go_wp2
 go_ret
 exact ⟨rfl,rfl⟩
theorem Yk {w:World} {B gc:Nat} {o:Nat → Prop} (h:Iq w B gc o):∃ p q,Bc p q = true ∧ p < 18446744073709551616 ∧ q < 18446744073709551616 ∧ Calls Try.prog 24 #[.pointer (some ⟨gc,0,none⟩)] w fun e w' => e = .returned (.complex .f64 p q) ∧ w = w':=by
 obtain ⟨rc,p,q,es,clk,hC,h2,h3,h4,_⟩:=h
 exact ⟨p,q,h4,h2,h3,YV gc rc p q clk es w hC⟩
def Zs (z:Nat → Nat × Nat):Prop:=∀ j,Bc (z j).1 (z j).2 = true ∧ (z j).1 < 18446744073709551616 ∧ (z j).2 < 18446744073709551616
def SB (z:Nat → Nat × Nat) (i p q:Nat):Nat → Nat × Nat:=fun j => if j = i then (p,q) else z j
theorem Zs.put {z:Nat → Nat × Nat} (h:Zs z) (i:Nat) {p q:Nat} (h1:Bc p q = true) (h2:p < 18446744073709551616) (h3:q < 18446744073709551616):Zs (SB z i p q):=fun j => by
 unfold SB
 by_cases hj:j = i
 ·rw [if_pos hj]; exact ⟨h1,h2,h3⟩
 ·rw [if_neg hj]; exact h j
def TN (w:World) (B gp:Nat) (n:Int) (a:Ad) (own:Nat → Nat → Prop) (X:Ps) (i:Nat) (wr:World):Prop:=∃ z,Zs z ∧ Mv w B gp n a own X (Bh z X i) wr
theorem TN.skip {w wr:World} {B gp:Nat} {n:Int} {a:Ad} {own:Nat → Nat → Prop} {X:Ps} {i:Nat} (h:TN w B gp n a own X i wr) (hx:¬ X.has (i + 1)):TN w B gp n a own X (i + 1) wr:=by
 obtain ⟨z,h1,h2⟩:=h
 refine ⟨z,h1,?_⟩
 unfold Bh
 rw [if_neg hx]
 exact h2
theorem TN.next {w wr:World} {B gp:Nat} {n:Int} {a:Ad} {own:Nat → Nat → Prop} {X:Ps} {i:Nat} {z:Nat → Nat × Nat} (hz:Zs z) (hx:X.has (i + 1)) {p q:Nat} (h1:Bc p q = true) (h2:p < 18446744073709551616) (h3:q < 18446744073709551616) (h:Mv w B gp n a own X (Dx p q (Bh z X i) (i + 1)) wr):TN w B gp n a own X (i + 1) wr:=by
 refine ⟨SB z (i + 1) p q,hz.put _ h1 h2 h3,?_⟩
 unfold Bh
 rw [if_pos hx,Nr (z:=SB z (i + 1) p q) (y:=z) X i (fun j hj => by unfold SB; exact if_neg (by omega))]
 unfold SB
 rw [if_pos rfl]
 exact h
theorem Mv.step {w:World} {B gp:Nat} {n:Int} {a:Ad} {own:Nat → Nat → Prop} {X:Ps} {v:Value} (h:BV w B gp n a own X v):Mv w B gp n a own X (Qh X) (w.setCell ⟨gp,0,none⟩ (.int .u32 ((X.ticks + 1) % 4294967296))):=by
 have hA:=Steps.At.set (Steps.At.refl gp w) 0 (.int .u32 ((X.ticks + 1) % 4294967296))
 exact ⟨own,v,h.puts (X':=Qh X) ⟨rfl,rfl,rfl⟩ hA (AQ h.blk 0 _ rfl) h.ev,fun _ _ h => .inl h,⟨Nat.le_of_eq hA.size.symm,fun i _ hs => hA.block i (fun e => hs (.inl (.inl e)))⟩,hA.below (Below.refl _ _) (h.low _ (.inl rfl)),rfl,rfl⟩
theorem Mv.lK {wz:World} {B gp:Nat} {n:Int} {a:Ad} {own:Nat → Nat → Prop} {Y:Ps} {v:Value} (h:BV wz B gp n a own Y v) {k:Nat} (hx:Y.has k):Mv wz B gp n a own Y (FM Y k) (wz.setCell ⟨a.gx k,1,none⟩ (.int .i64 ((Y.pn k).quiet + 1))):=by
 have hA:=Steps.At.set (Steps.At.refl (a.gx k) wz) 1 (.int .i64 ((Y.pn k).quiet + 1))
 exact ⟨own,v,h.WJ hx rfl hA (AQ (h.pk k hx) 1 _ rfl),fun _ _ h => .inl h,⟨Nat.le_of_eq hA.size.symm,fun i _ hs => hA.block i (fun e => hs (.inl (.inr (.inr ⟨k,hx,e⟩))))⟩,hA.below (Below.refl _ _) (h.low _ (.inr (.inr ⟨k,hx,rfl⟩))),rfl,rfl⟩
section
variable {w wz:World} {B gp:Nat} {n:Int} {a:Ad} {own:Nat → Nat → Prop} {X Y:Ps} {k:Nat}
theorem Mv.cells (hM:Mv w B gp n a own X Y wz) (hx:X.has k):∃ v,Y.has k ∧ wz.heap[a.gx k]? = some (.cells (Gy (a.ge k) (Y.pn k)) 172 (0,0)) ∧ wz.heap[gp]? = some (.cells (mrow Y n a v) 169 (0,0)):=by
 obtain ⟨Dw,v1,h1,hy,_⟩:=hM.at_ hx
 exact ⟨v1,hy,h1.pk k hy,h1.blk⟩
theorem Mv.drew (hM:Mv w B gp n a own X Y wz):Mv w B gp n a own X Y wz.drew:=by
 obtain ⟨Dw,v1,h1,h2,h3,h4,h5⟩:=hM
 have hb:Below wz.heap.size wz wz.drew:=Aj (Below.refl _ _)
 exact ⟨Dw,v1,h1.sub hb,h2,h3.below hb,h4.trans (hb.mono h1.hB),h5⟩
theorem Mv.ML (hM:Mv w B gp n a own X Y wz) (hx:X.has k) (hok:(Y.pn k).e.Ok):Calls Try.prog 33 #[.pointer (some ⟨a.ge k,0,none⟩)] wz fun e w' => e = .returned (.tuple #[]) ∧ Mv w B gp n a own X (Em Y k) w':=by
 obtain ⟨Dw,v1,h1,hy,_,hK⟩:=hM.at_ hx
 exact (WG (h1.e k hy) hok h1.hB).mono fun e w' hq => ⟨hq.1,hK _ _ (Mv.turn h1 hy hq.2)⟩
theorem Mv.Ji (hM:Mv w B gp n a own X Y wz) (hx:X.has k):Calls Try.prog 29 #[.pointer (some ⟨a.ge k,0,none⟩)] wz fun e w' => e = .returned (.int .i64 (Y.pn k).e.phase) ∧ wz = w':=by
 obtain ⟨Dw,v1,h1,hy,_⟩:=hM.at_ hx
 exact phase_end (h1.e k hy)
theorem Mv.XV (hM:Mv w B gp n a own X Y wz) (hx:X.has k) (hok:(Y.pn k).e.Ok) (hl:Y.evs.length ≤ 1000000):Calls Try.prog 93 #[.pointer (some ⟨gp,0,none⟩),.int .i64 k,.pointer (some ⟨a.gx k,0,none⟩)] wz fun e w' => e = .returned (.tuple #[]) ∧ Mv w B gp n a own X (GY Y k) w':=by
 obtain ⟨Dw,v1,h1,hy,_,hK⟩:=hM.at_ hx
 exact (Uh h1 k hy hok hl).mono fun e w' hq => ⟨hq.1,hK _ _ hq.2⟩
theorem Mv.Yi (hM:Mv w B gp n a own X Y wz) (hx:X.has k) (hok:(Y.pn k).e.Ok) (hp:(Y.pn k).e.phase = 2) (st ec:Int) (zr zi:Nat) (OH:zr < 18446744073709551616) (hzi:zi < 18446744073709551616):Calls Try.prog 96 #[.pointer (some ⟨a.ge k,0,none⟩),.int .u32 st,.int .u32 ec,.complex .f64 zr zi] wz fun e w' => (∃ v,e = .returned v) ∧ Mv w B gp n a own X (Y.BP k (GK (Y.pn k).e st ec zr zi)) w':=by
 obtain ⟨Dw,v1,h1,hy,_,hK⟩:=hM.at_ hx
 exact (U4 (h1.e k hy) hok h1.hB hp st ec zr zi OH hzi).mono fun e w' hq => ⟨hq.1,hK _ _ (Mv.turn h1 hy hq.2)⟩
theorem Mv.aY (hM:Mv w B gp n a own X Y wz):∃ p q,Bc p q = true ∧ p < 18446744073709551616 ∧ q < 18446744073709551616 ∧ Calls Try.prog 24 #[.pointer (some ⟨a.gc,0,none⟩)] wz fun e w' => e = .returned (.complex .f64 p q) ∧ wz = w':=by
 obtain ⟨Dw,v1,h1,_⟩:=hM
 exact Yk h1.ch
theorem Mv.aX (hM:Mv w B gp n a own X Y wz):Calls Try.prog 97 #[.pointer (some ⟨gp,0,none⟩)] wz fun e w' => e = .returned (.int .u32 Y.ticks) ∧ wz = w':=by
 obtain ⟨Dw,v1,h1,_⟩:=hM
 exact U6 ((AA h1.blk 0).trans rfl)
end
theorem We {w:World} {B gp:Nat} {a:Ad} {own:Nat → Nat → Prop} {X:Ps} {v:Value} (h:BV w B gp X.nodes a own X v) (hn:X.nodes ≤ 64) (hg:GX X) (hr:Rg X) (hl:X.evs.length ≤ 900000) :
  Calls Try.prog 56 #[.pointer (some ⟨gp,0,none⟩)] w fun e w' => e = .returned (.tuple #[]) ∧ ∃ z,Zs z ∧ Mv w B gp X.nodes a own X (Bh z X X.nodes) w':=by
 have hc0:w.cell? ⟨gp,0,none⟩ = some (.int .u32 X.ticks):=(AA h.blk 0).trans rfl
 have hf0:=AB h.blk 0
 have HST:=Lib.hid (WZ hc0 hf0)
 have hM0:=Mv.step h
 have HS:=Lib.hid (show TN w B gp X.nodes a own X 0 _ from ⟨fun _ => (0,0),fun _ => ⟨rfl,(show (0:Nat) < 18446744073709551616 from by decide),(show (0:Nat) < 18446744073709551616 from by decide)⟩,hM0⟩)
 have hc2:(w.setCell ⟨gp,0,none⟩ (.int .u32 ((X.ticks + 1) % 4294967296))).cell? ⟨gp,2,none⟩ = some (.int .i64 X.nodes):=(AA (AQ h.blk 0 _ rfl) 2).trans rfl
 have HG:=Lib.hid hg
 have HR:=Lib.hid hr
 have HL:=Lib.hid hl
 generalize hnn:X.nodes = N at *
 have HN:=Lib.hid hn
 have kW:=Lib.hid hnn
 clear h hn hg hr hl hnn hc0 hf0 hM0
 go_enter Try.func56,Try.ntmps56
 go_wp2_with (go_at_call 95; (have hc:=HST.out); (with_reducible refine hc.mono ?_); clear hc; rintro e w1 ⟨rfl,hw1⟩; (have iU:=Lib.hid (show TN w B gp N a own X 0 w1 from hw1 ▸ HS.out)); (rw [← hw1] at hc2); (clear hw1))
 clear HS HST
 go_loopg [15] N (fun m q wr => ∃ i:Nat,m = N - i ∧ i ≤ N ∧ q = .int .i64 (i:Int) ∧ TN w B gp N a own X i wr)
 case atStart => exact ⟨0,rfl,Nat.zero_le _,rfl,iU.out⟩
 case round =>
  obtain ⟨wo,rfl⟩:∃ wo:World,wo = wr:=⟨_,rfl⟩
  obtain ⟨i,hm,hin,rfl,hF⟩:=hrel
  have HM:=Lib.hid hm
  have XT:=Lib.hid hin
  have HF:=Lib.hid hF
  clear hm hin hF iU hc2
  have U7:=HN.out
  by_cases hlt:i < N
  ·have hd:decide ((i:Int) < (N:Int)) = true:=by simp [hlt]
   obtain ⟨z,hz,hM⟩:=HF.out
   obtain ⟨Dw,v1,hP,h2,h3,h4,h5⟩:=hM
   have Lr:=Lib.hid (fun (Z:Ps) (w2:World) (ht:Mv wo B gp N a Dw (Bh z X i) Z w2) => (show Mv w B gp N a own X Z w2 from by
    obtain ⟨KX,v2,g1,g2,g3,g4,g5⟩:=ht
    exact ⟨KX,v2,g1,fun i j hj => (g2 i j hj).elim (h2 i j) (fun h => .inr (Nat.le_trans h3.1 h)),h3.DT g3 (JL h5 h2),h4.trans g4,g5.1.trans h5.1,g5.2.trans h5.2⟩))
   have hc3:wo.cell? ⟨gp,3,none⟩ = some (.map (some a.r)):=(AA hP.blk 3).trans rfl
   have hlk:=hP.map.look ((i:Int) + 1)
   have HZ:=Lib.hid hz
   have HP:=Lib.hid hP
   have Yl:=Lib.hid (Gg z X i)
   clear hz hP h2 h3 h4 h5
   by_cases hx:X.has (i + 1)
   ·have hy:(Bh z X i).has (i + 1):=by unfold Ps.has; rw [Yl.out.2.1,Yl.out.2.2]; exact hx
    rw [show (Bh z X i).at_ a ((i:Int) + 1) = some (a.gx (i + 1)) from Ps.IV hy] at hlk
    simp only [ptr,Option.isSome] at hlk
    have HY:=Lib.hid hy
    have HX:=Lib.hid hx
    have hrr:=HR.out.2 _ hx
    have hpn:(Bh z X i).pn (i + 1) = X.pn (i + 1):=FX z X i _ (by omega)
    have VW:GX (Bh z X i):=HG.out.Bh HR.out (fun j => (HZ.out j).2) i
    have lM:=Lib.hid (show (Bh z X i).evs.length ≤ 999000 from by have h1:=LJ z X i; have h2:=HL.out; omega)
    obtain ⟨Y,lN⟩:∃ Y,Y = Bh z X i:=⟨_,rfl⟩
    rw [← lN] at HP Yl HY Lr lM hpn VW hy
    have lI:=Lib.hid lN
    clear lN
    have qY:=Lib.hid VW
    have XP:=Lib.hid (VW _ hy).1.ok
    obtain ⟨p,hp⟩:∃ p,p = i + 1:=⟨_,rfl⟩
    have hpc:((i:Int) + 1) = (p:Int):=by omega
    rw [hpc] at hlk
    rw [← hp] at HY HX hrr hpn hy hlk XP
    have ZM:=Lib.hid hp
    have hx0:wo.cell? ⟨a.gx p,0,none⟩ = some (.pointer (some ⟨a.ge p,0,none⟩)):=(AA (HP.out.pk p hy) 0).trans rfl
    have hx1:wo.cell? ⟨a.gx p,1,none⟩ = some (.int .i64 (Y.pn p).quiet):=(AA (HP.out.pk p hy) 1).trans rfl
    have hf1:=AB (HP.out.pk p hy) 1
    have ES:=Lib.hid (phase_end (HP.out.e p hy))
    rw [← hpn] at hrr
    obtain ⟨⟨hq0,hq1⟩,he0,he1⟩:=hrr
    have qZ:=Lib.hid (And.intro he0 he1)
    have WC:=Lib.hid (show (0 ≤ Y.ticks ∧ Y.ticks < 4294967296) from by rw [Yl.out.1]; omega)
    have lH:=Lib.hid hx
    clear hx hy VW hpn hp HF Yl he0 he1
    obtain ⟨T1,hT1⟩:∃ T1,T1 = DD Y p:=⟨_,rfl⟩
    obtain ⟨T,hT⟩:∃ T,T = Em T1 p:=⟨_,rfl⟩
    have HT:=Lib.hid hT.symm
    have hg1:GX T1:=hT1 ▸ qY.out.DD p
    have hh1:T1.has p:=by have h1:=IX Y p; rw [hT1]; unfold Ps.has; rw [h1.2.1,h1.2.2.1]; exact HY.out
    have WY:=Lib.hid (hg1 p hh1).1.ok
    have lG:=Lib.hid ((show GX T from hT ▸ hg1.Em p) p (show T.has p from hT ▸ hh1)).1.ok
    have qc:=Lib.hid hT1
    clear hT hg1 hh1
    have fin2:∀ W,¬ (T.pn p).e.phase = 2 → Mv wo B gp N a Dw Y T W → Mv wo B gp N a Dw Y (Dx 0 0 Y p) W:=fun W Ci hm => by unfold Dx Gj; rw [← qc.out,HT.out,if_neg Ci]; exact hm
    have af:∀ W zr zi,(T.pn p).e.phase = 2 → Mv wo B gp N a Dw Y (T.BP p (GK (T.pn p).e T.ticks (T.pn p).echo zr zi)) W → Mv wo B gp N a Dw Y (Dx zr zi Y p) W:=fun W zr zi Ci hm => by unfold Dx Gj; rw [← qc.out,HT.out,if_pos Ci]; exact hm
    have F2:=Lib.hid fin2
    have F3:=Lib.hid af
    clear fin2 af
    by_cases Ci:(Y.pn p).e.phase = 2
    ·have lQ:((Y.pn p).e.phase == 2) = true:=by simp [Ci]
     have qf:=Mv.lK HP.out HY.out
     have lS:=Lib.hid qf
     have ag:=Lib.hid (qY.out.quiet p p HY.out).1.ok
     clear qf
     by_cases hq:(Y.pn p).quiet + 1 > 10
     ·have hqq:decide ((Y.pn p).quiet + 1 > 10) = true:=by simp [hq]
      have HT1:=Lib.hid (show GY (FM Y p) p = T1 from by rw [hT1]; unfold DD; rw [if_pos Ci,if_pos hq])
      clear Ci hT1
      by_cases htp:(T.pn p).e.phase = 2
      ·have lJ:((T.pn p).e.phase == 2) = true:=by simp [htp]
       have Yj:=Lib.hid htp
       clear htp
       go_wp2_with (first | (go_at_call 29; (have hc:=ES.out); (with_reducible refine hc.mono ?_); clear hc; rintro e w9 ⟨rfl,rfl⟩) | (go_at_call 93; (have hc:=lS.out.XV HY.out ag.out (Nat.le_trans lM.out (by decide))); (with_reducible refine hc.mono ?_); clear hc; rintro e w2 ⟨rfl,hM2⟩; (have Si:=Lib.hid (show Mv wo B gp N a Dw Y T1 w2 from HT1.out ▸ hM2)); (obtain ⟨v2,-,hb2,-⟩:=hM2.cells HY.out); (have hx2:w2.cell? ⟨a.gx p,0,none⟩ = some (.pointer (some ⟨a.ge p,0,none⟩)):=(AA hb2 0).trans rfl); (clear hM2 hb2)) | (go_at_call 33; (have hc:=Si.out.ML HY.out WY.out); (with_reducible refine hc.mono ?_); clear hc; rintro e w3 ⟨rfl,JV⟩; (rw [HT.out] at JV); (have OI:=Lib.hid JV); (obtain ⟨v3,-,hb3,hp3⟩:=JV.cells HY.out); (have hx3:w3.cell? ⟨a.gx p,0,none⟩ = some (.pointer (some ⟨a.ge p,0,none⟩)):=(AA hb3 0).trans rfl); (have HB3:=Lib.hid (And.intro hb3 hp3)); (clear JV hb3 hp3)) | (go_at_call 29; (have hc:=OI.out.Ji HY.out); (with_reducible refine hc.mono ?_); clear hc; rintro e w9 ⟨rfl,rfl⟩))
       exact Z3
      ·have lJ:((T.pn p).e.phase == 2) = false:=by simp [htp]
       have Yj:=Lib.hid htp
       clear htp
       go_wp2_with (first | (go_at_call 29; (have hc:=ES.out); (with_reducible refine hc.mono ?_); clear hc; rintro e w9 ⟨rfl,rfl⟩) | (go_at_call 93; (have hc:=lS.out.XV HY.out ag.out (Nat.le_trans lM.out (by decide))); (with_reducible refine hc.mono ?_); clear hc; rintro e w2 ⟨rfl,hM2⟩; (have Si:=Lib.hid (show Mv wo B gp N a Dw Y T1 w2 from HT1.out ▸ hM2)); (obtain ⟨v2,-,hb2,-⟩:=hM2.cells HY.out); (have hx2:w2.cell? ⟨a.gx p,0,none⟩ = some (.pointer (some ⟨a.ge p,0,none⟩)):=(AA hb2 0).trans rfl); (clear hM2 hb2)) | (go_at_call 33; (have hc:=Si.out.ML HY.out WY.out); (with_reducible refine hc.mono ?_); clear hc; rintro e w3 ⟨rfl,JV⟩; (rw [HT.out] at JV); (have OI:=Lib.hid JV); (obtain ⟨v3,-,hb3,hp3⟩:=JV.cells HY.out); (have hx3:w3.cell? ⟨a.gx p,0,none⟩ = some (.pointer (some ⟨a.ge p,0,none⟩)):=(AA hb3 0).trans rfl); (have HB3:=Lib.hid (And.intro hb3 hp3)); (clear JV hb3 hp3)) | (go_at_call 29; (have hc:=OI.out.Ji HY.out); (with_reducible refine hc.mono ?_); clear hc; rintro e w9 ⟨rfl,rfl⟩))
       go_roundg (N - (i + 1))
       case measure => have:=HM.out; omega
       case rel => exact ⟨i + 1,rfl,by omega,(by first | rfl | (have h:=ZM.out; simp; omega)),TN.next (i:=i) HZ.out lH.out (p:=0) (q:=0) rfl (by decide) (by decide) (by have h:=Lr.out _ _ (show Mv wo B gp N a Dw Y (Dx 0 0 Y p) w3 from F2.out _ Yj.out OI.out); rw [lI.out,ZM.out] at h; exact h)⟩
     ·have hqq:decide ((Y.pn p).quiet + 1 > 10) = false:=by simp; omega
      have Si:=Lib.hid (show Mv wo B gp N a Dw Y T1 (wo.setCell ⟨a.gx p,1,none⟩ (.int .i64 ((Y.pn p).quiet + 1))) from (by rw [hT1]; unfold DD; rw [if_pos Ci,if_neg hq]; exact lS.out))
      exact qX
    ·have lQ:((Y.pn p).e.phase == 2) = false:=by simp [Ci]
     have Si:=Lib.hid (show Mv wo B gp N a Dw Y T1 wo from (by rw [hT1]; unfold DD; rw [if_neg Ci]; exact Mv.same HP.out))
     exact qX
   ·rw [show (Bh z X i).at_ a ((i:Int) + 1) = none from Ps.J4 (fun hh => hx ⟨by omega,by have:=Yl.out.2.2; omega,by have:=Yl.out.2.1; omega⟩)] at hlk
    simp only [ptr,Option.isSome] at hlk
    have HX:=Lib.hid (HF.out.skip hx)
    clear hx HP Lr HF
    go_wp2_with fail
    go_roundg (N - (i + 1))
    case measure => have:=HM.out; omega
    case rel => exact ⟨i + 1,rfl,by omega,by first | rfl | simp,HX.out⟩
  ·have hd:decide ((i:Int) < (N:Int)) = false:=by simp; omega
   have hie:i = N:=by have:=XT.out; omega
   go_wp2_with fail
   all_goals (first | go_end0 | (refine bodyPost_ret (results_none rfl _ _ _) rfl ?_))
   obtain ⟨z,hz,hM⟩:=HF.out
   exact ⟨rfl,z,hz,hie ▸ hM⟩
end Go.Proofs.Ytnkkgofpifhoeaa.Pe
end
