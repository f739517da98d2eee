/- What the laws of a pair are proved with: links and pairs in memory, what their methods do, what a pair keeps to (part 11). -/
import Derived.Test.YtnkkgofpifhoeaaPE10
import Derived.IntWalk
set_option linter.unusedSimpArgs false
set_option linter.unusedVariables false
set_option maxRecDepth 100000
set_option maxHeartbeats 16000000
section
namespace Go.Proofs.Ytnkkgofpifhoeaa.Rf
open Go.RowKit Go.Proofs.Ytnkkgofpifhoeaa.Base Go.Proofs.Ytnkkgofpifhoeaa.Steps Go.Proofs.Ytnkkgofpifhoeaa.Lk Go.Proofs.YtnkkgofpifhoeaaW.PrintWords Go.Proofs.YtnkkgofpifhoeaaW.PrintLast
theorem RE.rest {S:Nat → Prop} {w:World} {L:Lk} {nx:Int} {Aq:Option Addr} {cq:Nat} {Ao:Option Addr} {co:Nat} (h:RE S w L nx Aq cq Ao co) (d:Int):RE S w (Bv L d) nx Aq cq Ao co:=⟨h.q,h.qc,h.o,h.nx⟩
theorem JD (n:Nat) (L:Lk):(sends n L).sent = L.sent ∧ (sends n L).phase = L.phase:=by
 induction n with
 | zero => exact ⟨rfl,rfl⟩
 | succ n ih => exact ⟨(Lk.FQ _ _).trans ih.1,(show (emit_ (sends n L) (Dp L n)).phase = (sends n L).phase from by unfold emit_; split <;> rfl).trans ih.2⟩
theorem Z29 {p:Prop} (h:p:=by
 clear h0 h2 e1 hok h3 h1
 have HE:=Lib.hid h
 have HS:=Lib.hid hS
 clear h hS
 unfold EV
 generalize hnq:L.queue.length = nq at *
 generalize hno:L.out.length = no at *
 have LP:=Lib.hid hnq
 have KD:=Lib.hid hno
 clear hnq hno
 have Df:=Try.underlying78
 go_enter Try.func89,Try.ntmps89
 go_wp2
 all_goals go_returns
 all_goals (refine ⟨⟨_,rfl,nx,Aq,cq,Ao,co,?_,RE.rest (HE.out.below (Io _ _ _)) (L.idle + 1)⟩,Io _ _ _⟩; (rw [show (Bv L (L.idle + 1)).queue.length = nq from LP.out,show (Bv L (L.idle + 1)).out.length = no from KD.out]; rfl))):p:=h
theorem sH {S:Nat → Prop} {w:World} (hS:∀ k,S k → k < w.heap.size) {L:Lk} (hok:L.Ok) {nx:Int} {Aq:Option Addr} {cq:Nat} {Ao:Option Addr} {co:Nat} (h:RE S w L nx Aq cq Ao co) :
  Calls Try.prog 89 #[EV L nx Aq L.queue.length cq Ao L.out.length co] w fun e w' => (∃ v,e = .returned v ∧ RV S w' (Dz L) v) ∧ Below w.heap.size w w':=by
 by_cases h0:L.phase = 0
 ·have e1:Dz L = L:=if_pos h0
  have hq0:(L.phase == 0) = true:=by simp [h0]
  rw [e1]
  clear h0 e1 hok
  have HE:=Lib.hid h
  have HS:=Lib.hid hS
  clear h hS
  unfold EV
  generalize hnq:L.queue.length = nq at *
  generalize hno:L.out.length = no at *
  have LP:=Lib.hid hnq
  have KD:=Lib.hid hno
  clear hnq hno
  have Df:=Try.underlying78
  go_enter Try.func89,Try.ntmps89
  go_wp2
  all_goals go_returns
  all_goals (refine ⟨⟨_,rfl,nx,Aq,cq,Ao,co,?_,HE.out.below (Io _ _ _)⟩,Io _ _ _⟩; (rw [LP.out,KD.out]; rfl))
 have hq0:(L.phase == 0) = false:=by simp [h0]
 have hid:=hok.idle
 have hsb:=hok.sent
 by_cases h2:L.phase = 2 ∧ L.sent = 0
 ·have e1:Dz L = Bv L 0:=by unfold Dz; rw [if_neg h0,if_pos h2]
  have hq1:(L.phase == 2) = true:=by simp [h2.1]
  have hq2:(L.sent == 0) = true:=by simp [h2.2]
  rw [e1]
  clear h0 h2 e1 hok
  have HE:=Lib.hid h
  have HS:=Lib.hid hS
  clear h hS
  unfold EV
  generalize hnq:L.queue.length = nq at *
  generalize hno:L.out.length = no at *
  have LP:=Lib.hid hnq
  have KD:=Lib.hid hno
  clear hnq hno
  have Df:=Try.underlying78
  go_enter Try.func89,Try.ntmps89
  go_wp2
  all_goals go_returns
  all_goals (refine ⟨⟨_,rfl,nx,Aq,cq,Ao,co,?_,RE.rest (HE.out.below (Io _ _ _)) 0⟩,Io _ _ _⟩; (rw [show (Bv L 0).queue.length = nq from LP.out,show (Bv L 0).out.length = no from KD.out]; rfl))
 by_cases h3:L.idle + 1 < 3
 ·have e1:Dz L = Bv L (L.idle + 1):=by unfold Dz; rw [if_neg h0,if_neg h2,if_pos h3]
  have hq3:decide (L.idle + 1 < 3) = true:=by simp [h3]
  rw [e1]
  by_cases h1:L.phase = 2
  ·have hq1:(L.phase == 2) = true:=by simp [h1]
   have hq2:(L.sent == 0) = false:=by simp; intro hs; exact h2 ⟨h1,hs⟩
   exact Z29
  ·have hq1:(L.phase == 2) = false:=by simp [h1]
   exact Z29
 have hq3:decide (L.idle + 1 < 3) = false:=by simp; omega
 have oD:=Lib.hid (show RE S w (Bv L 0) nx Aq cq Ao co from ⟨h.q,h.qc,h.o,h.nx⟩)
 by_cases h1:L.phase = 1
 ·have e1:Dz L = emit_ (Bv L 0) (Bc (Bv L 0)):=by unfold Dz; rw [if_neg h0,if_neg h2,if_neg h3,if_pos h1]
  have hq1:(L.phase == 2) = false:=by simp [h1]
  have hq4:(L.phase == 1) = true:=by simp [h1]
  rw [e1]
  clear h0 h2 e1 hok h3 h1
  have HE:=Lib.hid h
  have HS:=Lib.hid hS
  clear h hS
  unfold EV
  generalize hnq:L.queue.length = nq at *
  generalize hno:L.out.length = no at *
  have LP:=Lib.hid hnq
  have KD:=Lib.hid hno
  clear hnq hno
  have Df:=Try.underlying78
  go_enter Try.func89,Try.ntmps89
  go_wp2_with (first | (go_at_call 115; ((have hcx:=fun (W:World) (hW:Below w.heap.size w W) (hz:w.heap.size + 2 ≤ W.heap.size) => Py (S:=plus S w 2) (JR HS.out hz) (L:=Bv L 0) (nx:=nx) (Aq:=Aq) (cq:=cq) (Ao:=Ao) (co:=co) ((RE.up FB oD.out).below hW)); (rw [show (Bv L 0).queue.length = nq from LP.out,show (Bv L 0).out.length = no from KD.out] at hcx); (refine Go.Calls.mono (show Calls Try.prog 115 #[.agg #[.int .u32 L.own,.int .i64 L.phase,.int .u32 L.token,.int .u32 L.AB,.int .u32 L.yours,.bool L.known,.slice Aq nq cq,.int .i64 L.sent,.int .u32 nx,.int .u32 L.expected,.int .i64 0,.slice Ao no co]] ((w.alloc _).alloc _) _ from hcx _ (Io w _ _) (by simp)) ?_); clear hcx; (intro e w1 hq); (obtain ⟨⟨v,he,IW⟩,hb2⟩:=hq); (obtain ⟨Ed,A7,c7,A8,c8,hv,BM⟩:=IW); (subst hv); (subst he); (have Yz:=Lib.hid BM); (have XJ:=Lib.hid ((Io w _ _).trans (hb2.mono (Io w _ _).size))); (have HZ1:=Lib.hid ((hb2.block (w.heap.size + 1) (by first | (simp; done) | (simp; omega))).trans (Ij _ _ _))); (clear BM hb2))) | ((with_reducible refine gate_ (.store 78 (.tmp 2) (.tmp 31)) rfl ?_); (refine Ad rfl rfl 78 (.tmp 2) (.tmp 31) rfl (w.heap.size + 1) _ rfl rfl 78 _ HZ1.out (by kernel_rfl) rfl (by kernel_rfl) ?_); (intro wz hbX Ec); (have aJ:=Lib.hid hbX); (have Kr:=Lib.hid Ec); (clear hbX Ec)))
  have Dt:=run_loadVar_row (P:=Try.prog) wz (w.heap.size + 1) 78 78 _ (0,0) _ aJ.out Try.underlying78 rfl (by kernel_rfl)
  have hbl:Below w.heap.size w wz:=Kr.out.below XJ.out (by omega)
  refine bodyPost_ret (v:=_) (Pk.results_cell Try.results89 _ _ rfl Dt) rfl ?_
  exact ⟨⟨_,rfl,Ed,A7,c7,A8,c8,rfl,(Yz.out.keep (AP Kr.out (CE (by decide)))).up IV⟩,hbl⟩
 have e1:Dz L = sends L.sent.toNat (Bv L 0):=by unfold Dz; rw [if_neg h0,if_neg h2,if_neg h3,if_neg h1]
 have hp2:L.phase = 2:=by have:=hok.phase; omega
 have hq1:(L.phase == 2) = true:=by simp [hp2]
 have hq2:(L.sent == 0) = false:=by simp; intro hs; exact h2 ⟨hp2,hs⟩
 have hq4:(L.phase == 1) = false:=by simp [h1]
 have Jf:=Lib.hid (MP hok (d:=0) (by decide))
 have HP2:=Lib.hid hp2
 rw [e1]
 clear h0 h2 e1 hok h3 h1 hp2
 have HE:=Lib.hid h
 have HS:=Lib.hid hS
 clear h hS
 unfold EV
 generalize hnq:L.queue.length = nq at *
 generalize hno:L.out.length = no at *
 have LP:=Lib.hid hnq
 have KD:=Lib.hid hno
 clear hnq hno
 have Df:=Try.underlying78
 go_enter Try.func89,Try.ntmps89
 go_wp2_with fail
 have HX0:=Lib.hid (Jq w (.cells #[.int .u32 L.own,.int .i64 L.phase,.int .u32 L.token,.int .u32 L.AB,.int .u32 L.yours,.bool L.known,.slice Aq nq cq,.int .i64 L.sent,.int .u32 nx,.int .u32 L.expected,.int .i64 0,.slice Ao no co] 78) (.cells #[.int .u32 0,.int .i64 0,.int .u32 0,.int .u32 0,.int .u32 0,.bool false,.slice none 0 0,.int .i64 0,.int .u32 0,.int .u32 0,.int .i64 0,.slice none 0 0] 78))
 have HZ0:=Lib.hid (Ij w (.cells #[.int .u32 L.own,.int .i64 L.phase,.int .u32 L.token,.int .u32 L.AB,.int .u32 L.yours,.bool L.known,.slice Aq nq cq,.int .i64 L.sent,.int .u32 nx,.int .u32 L.expected,.int .i64 0,.slice Ao no co] 78) (.cells #[.int .u32 0,.int .i64 0,.int .u32 0,.int .u32 0,.int .u32 0,.bool false,.slice none 0 0,.int .i64 0,.int .u32 0,.int .u32 0,.int .i64 0,.slice none 0 0] 78))
 have HW0:=Lib.hid (Io w (.cells #[.int .u32 L.own,.int .i64 L.phase,.int .u32 L.token,.int .u32 L.AB,.int .u32 L.yours,.bool L.known,.slice Aq nq cq,.int .i64 L.sent,.int .u32 nx,.int .u32 L.expected,.int .i64 0,.slice Ao no co] 78) (.cells #[.int .u32 0,.int .i64 0,.int .u32 0,.int .u32 0,.int .u32 0,.bool false,.slice none 0 0,.int .i64 0,.int .u32 0,.int .u32 0,.int .i64 0,.slice none 0 0] 78))
 have bJ:=Lib.hid (show w.heap.size + 2 ≤ ((w.alloc (.cells #[.int .u32 L.own,.int .i64 L.phase,.int .u32 L.token,.int .u32 L.AB,.int .u32 L.yours,.bool L.known,.slice Aq nq cq,.int .i64 L.sent,.int .u32 nx,.int .u32 L.expected,.int .i64 0,.slice Ao no co] 78)).alloc (.cells #[.int .u32 0,.int .i64 0,.int .u32 0,.int .u32 0,.int .u32 0,.bool false,.slice none 0 0,.int .i64 0,.int .u32 0,.int .u32 0,.int .i64 0,.slice none 0 0] 78)).heap.size from by simp)
 go_loopg [3] L.sent.toNat (fun n v wr => ∃ (i:Nat) (PE:Int) (A7:Option Addr) (n7 c7:Nat) (A8:Option Addr) (n8 c8:Nat),n = L.sent.toNat - i ∧ i ≤ L.sent.toNat ∧ v = .int .i64 (i:Int) ∧ wr.heap[w.heap.size]? = some (.cells (ev (sends i (Bv L 0)) PE (.slice A7 n7 c7) (.slice A8 n8 c8)) 78 (0,0)) ∧ wr.heap[w.heap.size + 1]? = some (.cells #[.int .u32 0,.int .i64 0,.int .u32 0,.int .u32 0,.int .u32 0,.bool false,.slice none 0 0,.int .i64 0,.int .u32 0,.int .u32 0,.int .i64 0,.slice none 0 0] 78 (0,0)) ∧ Below w.heap.size w wr ∧ w.heap.size + 2 ≤ wr.heap.size ∧ (sends i (Bv L 0)).queue.length = n7 ∧ (sends i (Bv L 0)).out.length = n8 ∧ RE (plus S w 2) wr (sends i (Bv L 0)) PE A7 c7 A8 c8)
 case atStart => exact ⟨0,nx,Aq,nq,cq,Ao,no,co,rfl,Nat.zero_le _,rfl,HX0.out,HZ0.out,HW0.out,bJ.out,LP.out,KD.out,(RE.up FB oD.out).below HW0.out⟩
 case round =>
  obtain ⟨i,PE,A7,n7,c7,A8,n8,c8,hn,hle,rfl,hX,hZ,hB,hL,h7,h8,hR⟩:=hrel
  have HN:=Lib.hid hn
  have nZ:=Lib.hid hle
  have J9:=Lib.hid hX
  have HZ1:=Lib.hid hZ
  have XJ:=Lib.hid hB
  have Pz:=Lib.hid hL
  have Yz:=Lib.hid hR
  have H7:=Lib.hid h7
  have H8:=Lib.hid h8
  clear hn hle hX hZ hB hL hR h7 h8
  have Fa:wr.cell? ⟨w.heap.size,7,none⟩ = some (.int .i64 L.sent):=(AA J9.out 7).trans (congrArg (fun x => some (Value.int .i64 x)) (JD i (Bv L 0)).1)
  by_cases hlt:(i:Int) < L.sent
  ·have hd8:decide ((i:Int) < L.sent) = true:=by simp [hlt]
   have WS:=Lib.hid hlt
   have HI1:=Lib.hid (show i < (sends i (Bv L 0)).queue.length by rw [Ls]; show i < L.queue.length; have:=LP.out; omega)
   have FH:=Lib.hid (show (sends i (Bv L 0)).phase ≠ 0 by rw [(JD i _).2]; show L.phase ≠ 0; rw [HP2.out]; decide)
   go_wp2_with (first | ((with_reducible refine AO (N:=38) rfl ?_); (refine wpList_load_row rfl 78 (.tmp 1) rfl (w.heap.size) (by rfl) 78 _ (0,0) _ J9.out Try.underlying78 rfl (by kernel_rfl) ?_)) | (go_at_call 118; ((have hcx:=Yb (S:=plus S w 2) (JR HS.out Pz.out) (L:=sends i (Bv L 0)) (Q4 Jf.out i) FH.out Yz.out i HI1.out); (rw [H7.out,H8.out,NW] at hcx); (refine Go.Calls.mono (show Calls Try.prog 118 #[.agg (ev (sends i (Bv L 0)) PE (.slice A7 n7 c7) (.slice A8 n8 c8)),.int .i64 (i:Int)] wr _ from hcx) ?_); clear hcx; (intro e w2 hq); (obtain ⟨⟨v,he,IW⟩,hb2⟩:=hq); (obtain ⟨Ed,A9,c9,XK,c10,hv,BM⟩:=IW); (subst hv); (subst he); (have sJ:=Lib.hid BM); (have sK:=Lib.hid (XJ.out.trans (hb2.mono XJ.out.size))); (have XL:=Lib.hid ((hb2.block _ (AQ J9.out)).trans J9.out)); (have HZ2:=Lib.hid ((hb2.block _ (AQ HZ1.out)).trans HZ1.out)); (have HL2:=Lib.hid (show w.heap.size + 2 ≤ w2.heap.size from by have h8:=hb2.size; have h9:=Pz.out; omega)); (clear BM hb2 Fa J9 HZ1 XJ Yz Pz))) | ((with_reducible refine gate_ (.store 78 (.tmp 1) (.tmp 40)) rfl ?_); (refine Ad rfl rfl 78 (.tmp 1) (.tmp 40) rfl (w.heap.size) _ rfl rfl 78 _ XL.out (by kernel_rfl) rfl (by kernel_rfl) ?_); (intro w3 hbX Ec); (have eY:=Lib.hid hbX); (have QG:=Lib.hid Ec); (clear hbX Ec); (have HZ3:=Lib.hid ((QG.out.block _ (by omega)).trans HZ2.out)); (have zX:=Lib.hid (QG.out.below sK.out (Nat.le_refl _))); (have zY:=Lib.hid (sJ.out.keep (AP QG.out (CE (i:=0) (by decide))))); (have ja:=Lib.hid (show w.heap.size + 2 ≤ w3.heap.size from by have h8:=QG.out.size; have h9:=HL2.out; omega)); (clear HZ2 sK sJ XL HL2)))
   go_roundg (L.sent.toNat - (i + 1))
   case measure => have:=HN.out; have:=WS.out; omega
   case rel => exact ⟨i + 1,Ed,A9,_,c9,XK,_,c10,rfl,by have:=WS.out; omega,by simp,eY.out,HZ3.out,zX.out,ja.out,rfl,rfl,zY.out⟩
  ·have hd8:decide ((i:Int) < L.sent) = false:=by simp; omega
   have HI:=Lib.hid (show i = L.sent.toNat by have:=nZ.out; omega)
   go_wp2_with (first | ((with_reducible refine AO (N:=41) rfl ?_); (refine wpList_load_row rfl 78 (.tmp 1) rfl (w.heap.size) (by rfl) 78 _ (0,0) _ J9.out Try.underlying78 rfl (by kernel_rfl) ?_)) | ((with_reducible refine gate_ (.store 78 (.tmp 2) (.tmp 41)) rfl ?_); (refine Ad rfl rfl 78 (.tmp 2) (.tmp 41) rfl (w.heap.size + 1) _ rfl rfl 78 _ HZ1.out (by kernel_rfl) rfl (by kernel_rfl) ?_); (intro wz hbX Ec); (have aJ:=Lib.hid hbX); (have Kr:=Lib.hid Ec); (clear hbX Ec)))
   have Dt:=run_loadVar_row (P:=Try.prog) wz (w.heap.size + 1) 78 78 _ (0,0) _ aJ.out Try.underlying78 rfl (by kernel_rfl)
   have hbl:Below w.heap.size w wz:=Kr.out.below XJ.out (by omega)
   refine bodyPost_ret (v:=_) (Pk.results_cell Try.results89 _ _ rfl Dt) rfl ?_
   rw [← HI.out]
   refine ⟨⟨_,rfl,PE,A7,c7,A8,c8,?_,(Yz.out.keep (AP Kr.out (CE (by decide)))).up IV⟩,hbl⟩
   rw [H7.out,H8.out]
theorem Y1 {S:Nat → Prop} {w:World} (hS:∀ k,S k → k < w.heap.size) {L:Lk} (hok:L.Ok) {nx:Int} {Aq:Option Addr} {cq:Nat} {Ao:Option Addr} {co:Nat} (h:RE S w L nx Aq cq Ao co) :
  Calls Try.prog 85 #[EV L nx Aq L.queue.length cq Ao L.out.length co] w fun e w' => (∃ v,e = .returned (.tuple #[v,.bool (decide (L.phase = 2))]) ∧ RV S w' (Aa L) v) ∧ Below w.heap.size w w':=by
 have Wh:=hok.queue
 have hsb:=hok.sent
 clear hok
 have hd2:(L.phase == 2) = decide (L.phase = 2):=rfl
 have HE:=Lib.hid h
 have HS:=Lib.hid hS
 clear h hS
 unfold EV
 generalize hnq:L.queue.length = nq at *
 generalize hno:L.out.length = no at *
 have LP:=Lib.hid hnq
 have KD:=Lib.hid hno
 clear hnq hno
 have Df:=Try.underlying78
 go_enter Try.func85,Try.ntmps85
 go_wp2_with fail
 have hb0:=AZ (Io w (.cells #[.int .u32 L.own,.int .i64 0,.int .u32 L.token,.int .u32 L.AB,.int .u32 L.yours,.bool L.known,.slice Aq nq cq,.int .i64 L.sent,.int .u32 nx,.int .u32 L.expected,.int .i64 L.idle,.slice Ao no co] 78) (.cells #[.int .u32 0,.int .i64 0,.int .u32 0,.int .u32 0,.int .u32 0,.bool false,.slice none 0 0,.int .i64 0,.int .u32 0,.int .u32 0,.int .i64 0,.slice none 0 0] 78))
 have hSS:((w.alloc (.cells #[.int .u32 L.own,.int .i64 0,.int .u32 L.token,.int .u32 L.AB,.int .u32 L.yours,.bool L.known,.slice Aq nq cq,.int .i64 L.sent,.int .u32 nx,.int .u32 L.expected,.int .i64 L.idle,.slice Ao no co] 78)).alloc (.cells #[.int .u32 0,.int .i64 0,.int .u32 0,.int .u32 0,.int .u32 0,.bool false,.slice none 0 0,.int .i64 0,.int .u32 0,.int .u32 0,.int .i64 0,.slice none 0 0] 78)).drew.heap[w.heap.size]? = some (.cells #[.int .u32 L.own,.int .i64 0,.int .u32 L.token,.int .u32 L.AB,.int .u32 L.yours,.bool L.known,.slice Aq nq cq,.int .i64 L.sent,.int .u32 nx,.int .u32 L.expected,.int .i64 L.idle,.slice Ao no co] 78 (0,0)) ∧ ((w.alloc (.cells #[.int .u32 L.own,.int .i64 0,.int .u32 L.token,.int .u32 L.AB,.int .u32 L.yours,.bool L.known,.slice Aq nq cq,.int .i64 L.sent,.int .u32 nx,.int .u32 L.expected,.int .i64 L.idle,.slice Ao no co] 78)).alloc (.cells #[.int .u32 0,.int .i64 0,.int .u32 0,.int .u32 0,.int .u32 0,.bool false,.slice none 0 0,.int .i64 0,.int .u32 0,.int .u32 0,.int .i64 0,.slice none 0 0] 78)).drew.heap[w.heap.size + 1]? = some (.cells #[.int .u32 0,.int .i64 0,.int .u32 0,.int .u32 0,.int .u32 0,.bool false,.slice none 0 0,.int .i64 0,.int .u32 0,.int .u32 0,.int .i64 0,.slice none 0 0] 78 (0,0)):=⟨Jq _ _ _,Ij _ _ _⟩
 refine BA (n:=8) (S:=fun w' => w'.heap[w.heap.size]? = some (.cells #[.int .u32 L.own,.int .i64 0,.int .u32 L.token,.int .u32 L.AB,.int .u32 L.yours,.bool L.known,.slice Aq nq cq,.int .i64 L.sent,.int .u32 nx,.int .u32 L.expected,.int .i64 L.idle,.slice Ao no co] 78 (0,0)) ∧ w'.heap[w.heap.size + 1]? = some (.cells #[.int .u32 0,.int .i64 0,.int .u32 0,.int .u32 0,.int .u32 0,.bool false,.slice none 0 0,.int .i64 0,.int .u32 0,.int .u32 0,.int .i64 0,.slice none 0 0] 78 (0,0))) (ds:=[7]) pg (by kernel_rfl) rfl rfl (hSS) (fun hHeld => ?_)
 generalize ((w.alloc (.cells #[.int .u32 L.own,.int .i64 0,.int .u32 L.token,.int .u32 L.AB,.int .u32 L.yours,.bool L.known,.slice Aq nq cq,.int .i64 L.sent,.int .u32 nx,.int .u32 L.expected,.int .i64 L.idle,.slice Ao no co] 78)).alloc (.cells #[.int .u32 0,.int .i64 0,.int .u32 0,.int .u32 0,.int .u32 0,.bool false,.slice none 0 0,.int .i64 0,.int .u32 0,.int .u32 0,.int .i64 0,.slice none 0 0] 78)).drew = w4 at hb0 hHeld ⊢
 have HB0:=Lib.hid hb0
 clear hb0
 refine tk 0 9 pq hHeld ?_ (hf:=by intro w' s0; have Df:=Try.underlying78; have hc0:w'.cell? ⟨w.heap.size,0,none⟩ = some (.int .u32 L.own):=(AA s0.1 0).trans rfl; have hc1:w'.cell? ⟨w.heap.size,1,none⟩ = some (.int .i64 0):=(AA s0.1 1).trans rfl; have hc2:w'.cell? ⟨w.heap.size,2,none⟩ = some (.int .u32 L.token):=(AA s0.1 2).trans rfl; have hc3:w'.cell? ⟨w.heap.size,3,none⟩ = some (.int .u32 L.AB):=(AA s0.1 3).trans rfl; have hc4:w'.cell? ⟨w.heap.size,4,none⟩ = some (.int .u32 L.yours):=(AA s0.1 4).trans rfl; have hc5:w'.cell? ⟨w.heap.size,5,none⟩ = some (.bool L.known):=(AA s0.1 5).trans rfl; have hc6:w'.cell? ⟨w.heap.size,6,none⟩ = some (.slice Aq nq cq):=(AA s0.1 6).trans rfl; have Xt:w'.cell? ⟨w.heap.size,7,none⟩ = some (.int .i64 L.sent):=(AA s0.1 7).trans rfl; have hc8:w'.cell? ⟨w.heap.size,8,none⟩ = some (.int .u32 nx):=(AA s0.1 8).trans rfl; have Bh:w'.cell? ⟨w.heap.size,9,none⟩ = some (.int .u32 L.expected):=(AA s0.1 9).trans rfl; have IL:w'.cell? ⟨w.heap.size,10,none⟩ = some (.int .i64 L.idle):=(AA s0.1 10).trans rfl; have Ob:w'.cell? ⟨w.heap.size,11,none⟩ = some (.slice Ao no co):=(AA s0.1 11).trans rfl; clear s0; go_simp; try rfl)
 refine pu 2 11 M4m ?_
 refine tk 3 12 M4n hHeld ?_ (hf:=by intro w' s0; have Xt:w'.cell? ⟨w.heap.size,7,none⟩ = some (.int .i64 L.sent):=(AA s0.1 7).trans rfl; clear s0; go_simp; with_reducible rfl)
 refine pu 4 13 M4o ?_
 have VS:=Lib.hid hHeld
 have J4:=HB0.out.size
 have hlt4:=AQ hHeld.2
 refine on 1 (some 10) pz fun K hK => ?_
 refine BH Try.func117 (by kernel_rfl) rfl #[.agg #[.int .u32 L.own,.int .i64 0,.int .u32 L.token,.int .u32 L.AB,.int .u32 L.yours,.bool L.known,.slice Aq nq cq,.int .i64 L.sent,.int .u32 nx,.int .u32 L.expected,.int .i64 L.idle,.slice Ao no co]] (by rfl) rfl rfl (by (try simp only [List.map_toArray,List.map_cons,List.map_nil]); first | done | rfl) ?_
 refine (fH w4 { L with phase:=0 } nx Aq nq cq Ao no co (by omega)).mono ?_
 rintro e w' ⟨rfl,hb5⟩
 refine ⟨_,rfl,?_⟩
 have FN:=Lib.hid hb5
 clear hb5 hHeld
 refine hK.out _ _ (⟨(FN.out.block _ (by omega)).trans VS.out.1,(FN.out.block _ hlt4).trans VS.out.2⟩) (fun hHeld => ?_)
 clear hK K
 refine nm 10 ?_
 refine pu 5 14 qA ?_
 refine pu 6 15 qB ?_
 refine la 7 none qC fun K hK => ?_
 have kL:=Lib.hid (HB0.out.trans (FN.out.mono J4))
 have fZ:=Lib.hid hHeld.1
 have HZ5:=Lib.hid hHeld.2
 have Rn:=Lib.hid (show w.heap.size + 2 ≤ w'.heap.size from AQ hHeld.2)
 have sN:=Lib.hid ((RE.up (FB (n:=2)) HE.out).below kL.out)
 clear hHeld VS FN HB0 J4 hlt4
 refine CG (fun wz => (∃ kM,wz.heap[w.heap.size]? = some (.cells #[.int .u32 L.own,.int .i64 0,.int .u32 L.token,.int .u32 L.AB,.int .u32 L.yours,.bool L.known,.slice Aq nq cq,.int .i64 L.sent,.int .u32 kM,.int .u32 L.expected,.int .i64 L.idle,.slice Ao no co] 78 (0,0))) ∧ Steps.At w.heap.size w' wz) (by rfl) rfl ⟨_,(by have hz1:World.cell? w' ⟨w.heap.size,8,none⟩ = some _:=(AA fZ.out 8).trans rfl; have hz2:=AL fZ.out 8; first | (go_simp; done) | (go_simp; rfl)),⟨_,Af fZ.out 8 _ rfl⟩,Steps.At.set (Steps.At.refl _ _) _ _⟩ (fun w6 hF => ?_)
 obtain ⟨⟨kM,aH⟩,hA6⟩:=hF
 have MI:=Lib.hid aH
 have QH:=Lib.hid hA6
 clear aH hA6
 have Yt:=Lib.hid ((QH.out.block _ (by omega)).trans HZ5.out)
 have Kt:=Lib.hid (QH.out.below kL.out (Nat.le_refl _))
 have Nv:=Lib.hid (sN.out.keep (AP QH.out (CE (i:=0) (by decide))))
 have PD:=Lib.hid (show w.heap.size + 2 ≤ w6.heap.size from by have h8:=QH.out.size; have h9:=Rn.out; omega)
 clear HZ5 kL sN fZ Rn
 refine hK.out _ _ ?_
 clear hK K
 refine BG (by kernel_rfl) ?_
 go_wp2_with (first | ((with_reducible refine gate_ (.store 45 (.tmp 16) (.const (.slice none 0 0))) rfl ?_); (refine AU (fun wz => wz.heap[w.heap.size]? = some (.cells #[.int .u32 L.own,.int .i64 0,.int .u32 L.token,.int .u32 L.AB,.int .u32 L.yours,.bool L.known,.slice none 0 0,.int .i64 L.sent,.int .u32 kM,.int .u32 L.expected,.int .i64 L.idle,.slice Ao no co] 78 (0,0)) ∧ Steps.At (w.heap.size) w6 wz) rfl rfl ⟨_,(by have hz1:World.cell? w6 ⟨w.heap.size,6,none⟩ = some _:=(AA MI.out 6).trans rfl; have hz2:=AL MI.out 6; first | (go_simp; done) | (go_simp; rfl)),Af MI.out 6 _ rfl,Steps.At.set (Steps.At.refl _ _) _ _⟩ (fun w7 hF => ?_)); (have Iu:=Lib.hid hF.1); (have D9:=Lib.hid hF.2); (clear hF); (have Yu:=Lib.hid ((D9.out.block _ (by omega)).trans Yt.out)); (have La:=Lib.hid (D9.out.below Kt.out (Nat.le_refl _))); (have Nw:=Lib.hid (Nv.out.keep (AP D9.out (CE (i:=0) (by decide))))); (have UK:=Lib.hid (show w.heap.size + 2 ≤ w7.heap.size from by have h8:=D9.out.size; have h9:=PD.out; omega)); (clear Yt Kt Nv MI PD)) | ((with_reducible refine gate_ (.store 3 (.tmp 17) (.const (.int .i64 0))) rfl ?_); (refine AU (fun wz => wz.heap[w.heap.size]? = some (.cells #[.int .u32 L.own,.int .i64 0,.int .u32 L.token,.int .u32 L.AB,.int .u32 L.yours,.bool L.known,.slice none 0 0,.int .i64 0,.int .u32 kM,.int .u32 L.expected,.int .i64 L.idle,.slice Ao no co] 78 (0,0)) ∧ Steps.At (w.heap.size) w7 wz) rfl rfl ⟨_,(by have hz1:World.cell? w7 ⟨w.heap.size,7,none⟩ = some _:=(AA Iu.out 7).trans rfl; have hz2:=AL Iu.out 7; first | (go_simp; done) | (go_simp; rfl)),Af Iu.out 7 _ rfl,Steps.At.set (Steps.At.refl _ _) _ _⟩ (fun w8 hF => ?_)); (have Hq:=Lib.hid hF.1); (have EC:=Lib.hid hF.2); (clear hF); (have aK:=Lib.hid ((EC.out.block _ (by omega)).trans Yu.out)); (have Og:=Lib.hid (EC.out.below La.out (Nat.le_refl _))); (have Oh:=Lib.hid (Nw.out.keep (AP EC.out (CE (i:=0) (by decide))))); (have Yv:=Lib.hid (show w.heap.size + 2 ≤ w8.heap.size from by have h8:=EC.out.size; have h9:=UK.out; omega)); (clear Yu La Nw Iu UK)) | ((with_reducible refine gate_ (.store 4 (.tmp 18) (.const (.bool false))) rfl ?_); (refine AU (fun wz => wz.heap[w.heap.size]? = some (.cells #[.int .u32 L.own,.int .i64 0,.int .u32 L.token,.int .u32 L.AB,.int .u32 L.yours,.bool false,.slice none 0 0,.int .i64 0,.int .u32 kM,.int .u32 L.expected,.int .i64 L.idle,.slice Ao no co] 78 (0,0)) ∧ Steps.At (w.heap.size) w8 wz) rfl rfl ⟨_,(by have hz1:World.cell? w8 ⟨w.heap.size,5,none⟩ = some _:=(AA Hq.out 5).trans rfl; have hz2:=AL Hq.out 5; first | (go_simp; done) | (go_simp; rfl)),Af Hq.out 5 _ rfl,Steps.At.set (Steps.At.refl _ _) _ _⟩ (fun w9 hF => ?_)); (have kG:=Lib.hid hF.1); (have Ia:=Lib.hid hF.2); (clear hF); (have wS:=Lib.hid ((Ia.out.block _ (by omega)).trans aK.out)); (have bu:=Lib.hid (Ia.out.below Og.out (Nat.le_refl _))); (have kH:=Lib.hid (Oh.out.keep (AP Ia.out (CE (i:=0) (by decide))))); (have zV:=Lib.hid (show w.heap.size + 2 ≤ w9.heap.size from by have h8:=Ia.out.size; have h9:=Yv.out; omega)); (clear aK Og Oh Hq Yv)) | ((with_reducible refine AO (N:=19) rfl ?_); (refine wpList_load_row rfl 78 (.tmp 1) rfl (w.heap.size) (by rfl) 78 _ (0,0) _ kG.out Try.underlying78 rfl (by kernel_rfl) ?_)) | ((with_reducible refine gate_ (.store 78 (.tmp 2) (.tmp 19)) rfl ?_); (refine Ad rfl rfl 78 (.tmp 2) (.tmp 19) rfl (w.heap.size + 1) _ rfl rfl 78 _ wS.out (by kernel_rfl) rfl (by kernel_rfl) ?_); (intro wz hbX Ec); (have aJ:=Lib.hid hbX); (have Kr:=Lib.hid Ec); (clear hbX Ec)))
 have Dt:=run_loadVar_row (P:=Try.prog) wz (w.heap.size + 1) 78 78 _ (0,0) _ aJ.out Try.underlying78 rfl (by kernel_rfl)
 have hbl:Below w.heap.size w wz:=Kr.out.below bu.out (by omega)
 refine bodyPost_ret (v:=_) (Az Try.results85 _ _ rfl rfl Dt) rfl ?_
 refine ⟨⟨_,rfl,kM,none,0,Ao,co,?_,?_⟩,hbl⟩
 ·show Value.agg _ = Value.agg (ev (Aa L) kM (.slice none 0 0) (.slice Ao L.out.length co))
  rw [KD.out]
  rfl
 ·exact ⟨FK.L.nil _ _ _ _,Nat.le_refl _,HE.out.o.below hbl,fun hp => absurd rfl hp⟩
structure Fm (w W:World) (bs:List (Nat × Nat)) (cs:List (Array Value)):Prop where
 bw:Below w.heap.size w W
 at_:∀ (i:Nat) (b:Nat × Nat) (c:Array Value),bs[i]? = some b → cs[i]? = some c → W.heap[b.1]? = some (.cells c b.2 (0,0))
 ge:∀ b ∈ bs,w.heap.size ≤ b.1
 lt:∀ b ∈ bs,b.1 < W.heap.size
 ne:∀ (i j:Nat) (b b':Nat × Nat),bs[i]? = some b → bs[j]? = some b' → i ≠ j → b.1 ≠ b'.1
def fS (S:Nat → Prop) (bs:List (Nat × Nat)):Nat → Prop:=fun k => S k ∨ ∃ b ∈ bs,b.1 = k
section
variable {S:Nat → Prop} {w W W':World} {bs:List (Nat × Nat)} {cs:List (Array Value)}
theorem Fm.get (F:Fm w W bs cs) (i:Nat) {b:Nat × Nat} {c:Array Value} (hb:bs[i]? = some b) (hc:cs[i]? = some c):W.heap[b.1]? = some (.cells c b.2 (0,0)):=F.at_ i b c hb hc
theorem Fm.CO (F:Fm w W bs cs) (i:Nat) {b:Nat × Nat} {c:Array Value} (hb:bs[i]? = some b) (hc:cs[i]? = some c) (j:Nat):W.cell? ⟨b.1,j,none⟩ = c[j]?:=AA (F.get i hb hc) j
theorem Fm.below (F:Fm w W bs cs) (hb:Below W.heap.size W W'):Fm w W' bs cs:=⟨F.bw.trans (hb.mono F.bw.size),fun i b c h1 h2 => (hb.block _ (F.lt b (List.mem_of_getElem? h1))).trans (F.at_ i b c h1 h2),F.ge,fun b h => Nat.lt_of_lt_of_le (F.lt b h) hb.size,F.ne⟩
theorem Fm.put (F:Fm w W bs cs) (i:Nat) {b:Nat × Nat} {c':Array Value} (hb:bs[i]? = some b) (hA:Steps.At b.1 W W') (hx:W'.heap[b.1]? = some (.cells c' b.2 (0,0))):Fm w W' bs (cs.set i c') :=
 ⟨hA.below F.bw (F.ge b (List.mem_of_getElem? hb)),fun k b2 c2 h1 h2 => by
  by_cases hk:i = k
  ·subst hk
   rw [hb] at h1
   cases h1
   rw [List.getElem?_set] at h2
   by_cases hl:i < cs.length
   ·simp only [hl,if_true,Option.some.injEq] at h2
    subst h2
    exact hx
   ·simp [hl] at h2
  ·rw [List.getElem?_set_ne hk] at h2
   exact (hA.block _ (F.ne k i b2 b h1 hb (Ne.symm hk))).trans (F.at_ k b2 c2 h1 h2),F.ge,fun x h => by rw [hA.size]; exact F.lt x h,F.ne⟩
theorem Fm.EP (F:Fm w W bs cs) (i:Nat) {b:Nat × Nat} {c:Array Value} (hb:bs[i]? = some b) (hc:cs[i]? = some c) (j:Nat) (v:Value):Fm w (W.setCell ⟨b.1,j,none⟩ v) bs (cs.set i (c.setIfInBounds j v)) :=
 F.put i hb (Steps.At.set (Steps.At.refl _ _) _ _) (Af (F.get i hb hc) j _ rfl)
theorem Fm.slt (F:Fm w W bs cs) (hS:∀ k,S k → k < w.heap.size):∀ k,fS S bs k → k < W.heap.size:=fun k hk => by
 rcases hk with hk | ⟨b,hb,he⟩
 ·have:=hS k hk; have:=F.bw.size; omega
 ·have:=F.lt b hb; omega
theorem Fm.up (F:Fm w W bs cs):∀ k,fS S bs k → S k ∨ w.heap.size ≤ k:=fun k hk => by
 rcases hk with hk | ⟨b,hb,he⟩
 ·exact .inl hk
 ·exact .inr (he ▸ F.ge b hb)
theorem EH:∀ k,S k → fS S bs k ∨ w.heap.size ≤ k:=fun k hk => .inl (.inl hk)
theorem AX (i:Nat) {b:Nat × Nat} (hb:bs[i]? = some b):fS S bs b.1:=.inr ⟨b,List.mem_of_getElem? hb,rfl⟩
end
section
variable {P:Program} {ops:Array Oper} {Q:Exit → Act → World → Prop} {rest:List Oper} {o:Oper} {a:Act} {w W:World} {bs:List (Nat × Nat)} {cs:List (Array Value)}
theorem Fm.ld (F:Fm w W bs cs) (i:Nat) (hgd:o.guard = none) (ty:TypeId) (x:Operand) (ho:o.op = .load ty x) {b:Nat × Nat} {c:Array Value} (hb:bs[i]? = some b) (hc:cs[i]? = some c) (hx:a.eval x = .pointer (some ⟨b.1,0,none⟩)) {d:TypeDesc} (hu:P.underlying ty = some d) (hd:(match d with | .struct _ | .array _ _ => true | _ => false) = true) (hi:(P.info? ty).map (·.size) = some c.size)
  (h:wpList P ops Q rest (a.put o.dst (.agg c)) W):wpList P ops Q (o :: rest) a W :=
 wpList_load_row hgd ty x ho b.1 hx b.2 c (0,0) d (F.get i hb hc) hu hd hi h
theorem Fm.st (F:Fm w W bs cs) (i:Nat) (hgd:o.guard = none) (hN:o.dst = none) (ty:TypeId) (x y:Operand) (ho:o.op = .store ty x y) {b:Nat × Nat} {c c':Array Value} (hb:bs[i]? = some b) (hc:cs[i]? = some c) (hx:a.eval x = .pointer (some ⟨b.1,0,none⟩)) (hy:a.eval y = .agg c') (hi:(P.info? ty).map (·.size) = some c'.size) (hold:c.size = c'.size) (h1:c'.all (·.oneCell') = true)
  (k:∀ W',Fm w W' bs (cs.set i c') → Steps.At b.1 W W' → wpList P ops Q rest a W'):wpList P ops Q (o :: rest) a W :=
 Ad hgd hN ty x y ho b.1 c' hx hy b.2 c (F.get i hb hc) hi hold h1 (fun W' h2 h3 => k W' (F.put i hb h3 h2) h3)
end
theorem Fm.five (w:World) (a b c d e:Array Value) (ta tb tc td te:Nat):Fm w (((((w.alloc (.cells a ta)).alloc (.cells b tb)).alloc (.cells c tc)).alloc (.cells d td)).alloc (.cells e te)) [(w.heap.size,ta),(w.heap.size + 1,tb),(w.heap.size + 2,tc),(w.heap.size + 3,td),(w.heap.size + 4,te)] [a,b,c,d,e]:=by
 have h2:=Io (((w.alloc (.cells a ta)).alloc (.cells b tb)).alloc (.cells c tc)) (.cells d td) (.cells e te)
 have hs:(((w.alloc (.cells a ta)).alloc (.cells b tb)).alloc (.cells c tc)).heap.size = w.heap.size + 3:=by simp
 rw [hs] at h2
 have k0:=Jq (((w.alloc (.cells a ta)).alloc (.cells b tb)).alloc (.cells c tc)) (.cells d td) (.cells e te)
 have k1:=Ij (((w.alloc (.cells a ta)).alloc (.cells b tb)).alloc (.cells c tc)) (.cells d td) (.cells e te)
 rw [hs] at k0 k1
 refine ⟨(jV w _ _ _).trans (h2.mono (by omega)),fun i x y hi hy => ?_,fun x hx => ?_,fun x hx => ?_,fun i j x y hi hj hn => ?_⟩
 ·match i,hi,hy with
  | 0,hi,hy => cases hi; cases hy; exact (h2.block _ (by omega)).trans (fF _ _ _ _)
  | 1,hi,hy => cases hi; cases hy; exact (h2.block _ (by omega)).trans (YW _ _ _ _)
  | 2,hi,hy => cases hi; cases hy; exact (h2.block _ (by omega)).trans (fG _ _ _ _)
  | 3,hi,hy => cases hi; cases hy; exact k0
  | 4,hi,hy => cases hi; cases hy; exact k1
 ·simp only [List.mem_cons,List.not_mem_nil,or_false] at hx
  rcases hx with h | h | h | h | h <;> subst h <;> simp <;> omega
 ·simp only [List.mem_cons,List.not_mem_nil,or_false] at hx
  rcases hx with h | h | h | h | h <;> subst h <;> simp <;> omega
 ·have hi5:i < 5:=by have:=(List.getElem?_eq_some_iff.1 hi).1; simpa using this
  have zZ:j < 5:=by have:=(List.getElem?_eq_some_iff.1 hj).1; simpa using this
  have hx:x.1 = w.heap.size + i:=by
   match i,hi with
   | 0,hi => cases hi; rfl
   | 1,hi => cases hi; rfl
   | 2,hi => cases hi; rfl
   | 3,hi => cases hi; rfl
   | 4,hi => cases hi; rfl
  have hy:y.1 = w.heap.size + j:=by
   match j,hj with
   | 0,hj => cases hj; rfl
   | 1,hj => cases hj; rfl
   | 2,hj => cases hj; rfl
   | 3,hj => cases hj; rfl
   | 4,hj => cases hj; rfl
  omega
theorem Fm.add {w W:World} {bs:List (Nat × Nat)} {cs:List (Array Value)} (F:Fm w W bs cs) (hl:bs.length = cs.length) (c:Array Value) (t:Nat):Fm w (W.alloc (.cells c t)) (bs ++ [(W.heap.size,t)]) (cs ++ [c]):=by
 have hb:Below W.heap.size W (W.alloc (.cells c t)):=(Below.refl _ _).alloc (Nat.le_refl _) _
 have F2:=F.below hb
 have key:∀ (i:Nat) (b:Nat × Nat),(bs ++ [(W.heap.size,t)])[i]? = some b → bs[i]? = some b ∨ (i = bs.length ∧ b = (W.heap.size,t)):=fun i b h => by
  by_cases hi:i < bs.length
  ·rw [List.getElem?_append_left hi] at h; exact .inl h
  ·rw [List.getElem?_append_right (by omega)] at h
   by_cases he:i = bs.length
   ·subst he; rw [Nat.sub_self] at h; exact .inr ⟨rfl,(Option.some.inj h).symm⟩
   ·rw [List.getElem?_eq_none (by simp; omega)] at h; cases h
 refine ⟨F2.bw,fun i b x h1 h2 => ?_,fun b hb' => ?_,fun b hb' => ?_,fun i j b b' h1 h2 hn => ?_⟩
 ·rcases key i b h1 with h | ⟨rfl,rfl⟩
  ·have hi:=(List.getElem?_eq_some_iff.1 h).1
   rw [List.getElem?_append_left (by omega)] at h2
   exact F2.at_ i b x h h2
  ·rw [List.getElem?_append_right (by omega),hl,Nat.sub_self] at h2
   cases h2
   exact heap_alloc_new W _
 ·rcases List.mem_append.1 hb' with h | h
  ·exact F.ge b h
  ·rw [List.mem_singleton.1 h]; exact F.bw.size
 ·rcases List.mem_append.1 hb' with h | h
  ·exact F2.lt b h
  ·rw [List.mem_singleton.1 h]; simp
 ·rcases key i b h1 with h | ⟨e,rfl⟩ <;> rcases key j b' h2 with h' | ⟨e',rfl⟩
  ·exact F.ne i j b b' h h' hn
  ·have:=F.lt b (List.mem_of_getElem? h); simp only; omega
  ·have:=F.lt b' (List.mem_of_getElem? h'); simp only; omega
  ·omega
structure EB (S:Nat → Prop) (w:World) (L:Lk) (nx:Int) (Aq:Option Addr) (cq:Nat) (Ao:Option Addr) (co:Nat) (A:Option Addr) (bd:List Int) (c:Nat):Prop where
 e:RE S w L nx Aq cq Ao co
 b:Gl S w A bd
 c:bd.length ≤ c
section
variable {S S':Nat → Prop} {w w':World} {L:Lk} {nx:Int} {Aq:Option Addr} {cq:Nat} {Ao:Option Addr} {co:Nat} {A:Option Addr} {b:List Int} {c:Nat} {bs:List (Nat × Nat)} {cs:List (Array Value)}
theorem EB.keep (h:EB S w L nx Aq cq Ao co A b c) (hk:Kept w w' S):EB S w' L nx Aq cq Ao co A b c:=⟨h.e.keep hk,h.b.keep hk,h.c⟩
theorem EB.below (h:EB S w L nx Aq cq Ao co A b c) (hb:Below w.heap.size w w'):EB S w' L nx Aq cq Ao co A b c:=h.keep (Kept.of_below hb _)
theorem Fm.Dn {t:Nat}:∀ k,fS S (bs ++ [(w.heap.size,t)]) k → fS S bs k ∨ w.heap.size ≤ k:=fun k hk => by
 rcases hk with hk | ⟨b,hb,he⟩
 ·exact .inl (.inl hk)
 ·rcases List.mem_append.1 hb with h | h
  ·exact .inl (.inr ⟨b,h,he⟩)
  ·rw [List.mem_singleton.1 h] at he; exact .inr (by subst he; exact Nat.le_refl _)
theorem QI (hS:∀ k,S k → k < w.heap.size) {ok:Nat → Prop} {n:Nat} (h:(Kd.int .u8).R 5 w' w.heap.size ok (.slice A n c) b):Gl S w' A b ∧ n = b.length ∧ n ≤ c:=by
 obtain ⟨hn,hl,hC⟩:=Kd.Bi h
 subst hn
 refine ⟨⟨hC,fun h0 ad had hlt => ?_⟩,rfl,hl⟩
 subst had
 have h1:=((Kd.Du h).1 ad.block rfl).2.1
 have h2:=hS _ hlt
 omega
end
theorem FK.L.drop {α:Type} {d:FK α} {S:Nat → Prop} {w:World} {A:Option Addr} {xs:List α} (hsz:0 < d.sz) (h:d.L S w A xs.length xs) {k c:Nat} (hk:k ≤ xs.length) (hc:xs.length ≤ c):d.L S w (if c = k then A else A.map (·.add (k * d.sz))) (xs.drop k).length (xs.drop k):=by
 obtain ⟨rows,h1,h2,h3,h4⟩:=h
 rw [← h3] at h1 hk hc
 have hC:=Kd.Xn h1 hk hc
 have hl:(rows.drop k).length = (xs.drop k).length:=by simp [h3]
 rw [hl] at hC
 refine ⟨rows.drop k,hC,fun h0 ad had hs => ?_,hl,fun i x r hx hr => h4 (k + i) x r (by rw [← hx]; simp) (by rw [← hr]; simp)⟩
 have h0':0 < xs.length:=by have:=h0; rw [List.length_drop] at this; omega
 obtain ⟨a0,ha0,_⟩:=h1.2.2 (by omega)
 subst ha0
 refine h2 h0' a0 rfl ?_
 split at had
 ·injection had with e; subst e; exact hs
 ·have e:a0.add (k * (Dc d.sz).sz) = ad:=Option.some.inj had
  subst e
  rw [add_block] at hs
  exact hs
theorem kN {L:Lk} {k:Nat} (hk:k ≤ L.queue.length):IntKind.u32.wrap (L.base + L.queue.length) = IntKind.u32.wrap ((CZ L k).base + (CZ L k).queue.length):=by
 unfold CZ
 simp only [List.length_drop,FZ]
 omega
theorem bz (w:World) (a b:Int) (ha:0 ≤ a ∧ a < 4294967296) (hb:0 ≤ b ∧ b < 4294967296) {k:Int} (hk:IntKind.u32.wrap (b - a) = k) :
  Calls Try.prog 133 #[.int .u32 a,.int .u32 b] w fun e w' => e = .returned (.int .u64 k) ∧ w = w':=by
 subst hk
 exact jX w a b ha hb
theorem EBx {S:Nat → Prop} {w:World} {L:Lk} {nx:Int} {Aq:Option Addr} {cq:Nat} {Ao:Option Addr} {co:Nat} {e:Int} (he:0 ≤ e ∧ e < 4294967296) (h:RE S w L nx Aq cq Ao co):EB S w { L with expected:=e } nx Aq cq Ao co none [] 0:=⟨⟨h.q,h.qc,h.o,h.nx⟩,Gl.nil _ _,Nat.le_refl _⟩
theorem EB.cut {S:Nat → Prop} {w:World} {L:Lk} {nx:Int} {Aq:Option Addr} {cq:Nat} {Ao:Option Addr} {co:Nat} {A:Option Addr} {bd:List Int} {c:Nat} (h:EB S w L nx Aq cq Ao co A bd c) {k:Nat} (hk:k ≤ L.queue.length) {A7:Option Addr} (hA:A7 = (if cq = k then Aq else Aq.map (·.add (k * YU.sz)))):EB S w (CZ L k) nx A7 (cq - k) Ao co A bd c :=
 ⟨⟨by rw [hA]; exact FK.L.drop (d:=YU) (by decide) h.e.q hk h.e.qc,by show (L.queue.drop k).length ≤ cq - k; rw [List.length_drop]; have:=h.e.qc; omega,h.e.o,fun hp => by rw [h.e.nx hp]; exact kN hk⟩,h.b,h.c⟩
theorem Y2 (A:Option Addr) (n c k:Nat) (hk:k ≤ n) (hc:n ≤ c) (W:World):(Instr.slice 45 (.slice A n c) (some (.int .u64 (k:Int))) none none).run Try.prog W = .ok (.slice (if c = k then A else A.map (·.add (k * YU.sz))) (n - k) (c - k)) W:=by
 have hu:Try.prog.underlying 45 = some (.slice (Try.prog.elem 45)):=by kernel_rfl
 have h1:(0:Int) ≤ k:=by omega
 have h2:(k:Int) ≤ n:=by omega
 have e:=run_slice_l (P:=Try.prog) W 45 A n c hu IntKind.u64 (k:Int) h1 h2
 exact Z55
theorem cO {S:Nat → Prop} {w:World} (hS:∀ k,S k → k < w.heap.size) {L:Lk} {nx:Int} {Aq:Option Addr} {cq:Nat} {Ao:Option Addr} {co:Nat} (h:RE S w L nx Aq cq Ao co) :
  Calls Try.prog 130 #[EV L nx Aq L.queue.length cq Ao L.out.length co,.agg #[.int .i64 3,.int .u32 L.token,.int .u32 L.AB,.int .u32 L.yours,.int .u32 0,.int .u32 L.expected,.int .u32 0,.int .u32 0,.complex .f64 0 0,.slice none 0 0]] w fun e w' => (∃ v,e = .returned v ∧ RV S w' (emit_ L (Hy L)) v) ∧ Below w.heap.size w w':=by
 refine Go.Calls.mono (show Calls Try.prog 130 _ _ _ from YY hS (nx:=nx) (Aq:=Aq) (nq:=L.queue.length) (cq:=cq) (co:=co) h.o (Hy L) (Ab:=none) (cb:=0) (Gl.nil S w) (Nat.le_refl _)) ?_
 rintro e w' ⟨A1,c1,rfl,hC,hb⟩
 exact ⟨⟨_,rfl,nx,Aq,cq,A1,c1,by rw [KU],h.emit (Hy L) (Kept.of_below hb _) hC⟩,hb⟩
theorem sO {S:Nat → Prop} {w:World} (hS:∀ k,S k → k < w.heap.size) {L:Lk} (hok:L.Ok) (DT:L.phase ≠ 0) (hid:L.idle = 0) (hq:L.sent < L.queue.length) (h8:L.sent < 8) {nx:Int} {Aq:Option Addr} {cq:Nat} {Ao:Option Addr} {co:Nat} (h:RE S w L nx Aq cq Ao co) :
  Calls Try.prog 118 #[EV { L with sent:=L.sent + 1 } nx Aq L.queue.length cq Ao L.out.length co,.int .i64 L.sent] w fun e w' => (∃ v,e = .returned v ∧ RV S w' (Bj L) v) ∧ Below w.heap.size w w':=by
 have hs:=hok.sent
 obtain ⟨i,hi⟩:∃ i:Nat,(i:Int) = L.sent:=⟨L.sent.toNat,Int.toNat_of_nonneg hs.1⟩
 have hc:=Yb hS (L:={ L with sent:=L.sent + 1 }) (show Lk.Ok { L with sent:=L.sent + 1 } from by have:=KP hok hq h8 L.idle hok.idle; exact this) DT (nx:=nx) (Aq:=Aq) (cq:=cq) (Ao:=Ao) (co:=co) ⟨h.q,h.qc,h.o,h.nx⟩ i (by show i < L.queue.length; omega)
 have e1:Bj L = emit_ { L with sent:=L.sent + 1 } (Dp { L with sent:=L.sent + 1 } L.sent):=by
  unfold Bj
  have:(if L.sent = 0 then 0 else L.idle) = L.idle:=by split <;> simp [hid]
  rw [this]
  rfl
 rw [hi] at hc
 rw [e1]
 exact hc
theorem cZ {L:Lk} (h:L.sent < L.queue.length) (h8:L.sent < 8):BL (Bj L) = BL L:=by
 unfold BL
 rw [Di]
 have e:(8 - L.sent).toNat + 1 = ((8 - (L.sent + 1)).toNat + 1) + 1:=by omega
 rw [e]
 conv => rhs; unfold Dq
 rw [if_pos ⟨h,h8⟩]
theorem QJ (L:Lk) (h:L.idle = 0):(Bj L).idle = 0:=by
 have e:∀ (M:Lk) (p:Bz),(emit_ M p).idle = M.idle:=fun M p => by unfold emit_; split <;> rfl
 unfold Bj
 rw [e]
 show (if L.sent = 0 then 0 else L.idle) = 0
 split <;> simp [h]
theorem EB.pack {S:Nat → Prop} {w W:World} {L:Lk} {nx:Int} {Aq:Option Addr} {cq:Nat} {Ao:Option Addr} {co:Nat} {A:Option Addr} {bd:List Int} {c:Nat} {bs:List (Nat × Nat)} {cs:List (Array Value)} {c0 c1 c2 c3:Array Value} (h:EB S W L nx Aq cq Ao co A bd c) (F:Fm w W bs cs) (hcs:cs = [c0,c1,c2,c3,#[.bool true,.bool false,.bool false,.slice A bd.length c]]) {TB:List Int} (hT:TB = bd) :
  ∃ (A:Option Addr) (c:Nat),Fm w W bs [c0,c1,c2,c3,#[.bool true,.bool false,.bool false,.slice A TB.length c]] ∧ EB S W L nx Aq cq Ao co A TB c:=by
 subst hT
 subst hcs
 exact ⟨A,c,F,h⟩
theorem Ro {L:Lk} (h:¬ (L.sent < L.queue.length ∧ L.sent < 8)):BL L = L:=by
 unfold BL
 unfold Dq
 rw [if_neg h]
def wr:Array Value → Nat → List Value → Array Value
 | c,_,[] => c
 | c,o,v :: r => wr (c.setIfInBounds o v) (o + 1) r
theorem Va:∀ (vs:List Value) (c:Array Value) (o:Nat),(wr c o vs).size = c.size
 | [],_,_ => rfl
 | v :: r,c,o => (Va r _ _).trans (by simp)
theorem Nz:∀ (vs:List Value) (c:Array Value) (o k:Nat),(k < o ∨ o + vs.length ≤ k) → (wr c o vs)[k]? = c[k]?
 | [],_,_,_,_ => rfl
 | v :: r,c,o,k,h => by
  have h':k < o ∨ o + (r.length + 1) ≤ k:=h
  refine (Nz r _ _ k (by omega)).trans ?_
  exact Array.getElem?_setIfInBounds_ne (by omega)
theorem Y3:∀ (vs:List Value) (c:Array Value) (o j:Nat) (v:Value),vs[j]? = some v → o + j < c.size → (wr c o vs)[o + j]? = some v
 | [],_,_,_,_,h,_ => by cases h
 | u :: r,c,o,0,v,h,hs => by
  have e:u = v:=Option.some.inj h
  subst e
  refine (Nz r _ _ _ (by omega)).trans ?_
  exact Array.getElem?_setIfInBounds_self_of_lt hs
 | u :: r,c,o,j + 1,v,h,hs => by
  have:=Y3 r (c.setIfInBounds o u) (o + 1) j v h (by simp; omega)
  rwa [show o + 1 + j = o + (j + 1) by omega] at this
theorem Ku {c:Array Value} (h:c.all (·.oneCell') = true) (o:Nat) {v:Value} (hv:v.oneCell' = true):(c.setIfInBounds o v).all (·.oneCell') = true:=by
 rw [Array.all_eq_true] at h ⊢
 intro i hi
 rw [Array.getElem_setIfInBounds]
 split
 ·exact hv
 ·exact h i (by simpa using hi)
theorem Y4:∀ (vs:List Value) (c:Array Value) (o:Nat),c.all (·.oneCell') = true → (∀ v ∈ vs,v.oneCell' = true) → (wr c o vs).all (·.oneCell') = true
 | [],_,_,h,_ => h
 | u :: r,c,o,h,hv => Y4 r _ _ (Ku h o (hv u (.head _))) (fun v hr => hv v (.tail _ hr))
theorem Kv:∀ (vs:List Value) (w:World) (b o:Nat) (c:Array Value) (t:TypeId) (fr:Nat × Nat),w.heap[b]? = some (.cells c t fr) → (w.setCells b o vs).heap[b]? = some (.cells (wr c o vs) t fr)
 | [],_,_,_,_,_,_,h => h
 | v :: r,w,b,o,c,t,fr,h => Kv r (w.setCell ⟨b,o,none⟩ v) b (o + 1) _ t fr (by simp [World.setCell,Array.getElem?_modify,h])
theorem L6:∀ (vs:List Value) (w:World) (b o:Nat),Steps.At b w (w.setCells b o vs)
 | [],w,b,_ => Steps.At.refl b w
 | v :: r,w,b,o => by
  have h1:=Steps.At.set (Steps.At.refl b w) o v
  have h2:=L6 r (w.setCell ⟨b,o,none⟩ v) b (o + 1)
  exact ⟨h2.os.trans h1.os,h2.tape.trans h1.tape,h2.output.trans h1.output,h2.size.trans h1.size,fun k hk => (h2.block k hk).trans (h1.block k hk)⟩
theorem PG {w:World} {b:Nat} {c:Array Value} {t:TypeId} (hb:w.heap[b]? = some (.cells c t (0,0))) {o:Nat} {r:List Value} (hr:∀ j v,r[j]? = some v → c[o + j]? = some v):w.rangeAt b o r:=fun j v hv => (AA hb (o + j)).trans (hr j v hv)
theorem Lc {w:World} {b:Nat} {c:Array Value} {t:TypeId} (hb:w.heap[b]? = some (.cells c t (0,0))) {o n:Nat} (hl:o + n ≤ c.size):w.there b o n:=fun j hj => ⟨by
 rw [AA hb (o + j),Array.getElem?_eq_getElem (show o + j < c.size by omega)]; rfl,AL hb (o + j)⟩
section
variable {P:Program} {ops:Array Oper} {Q:Exit → Act → World → Prop} {rest:List Oper} {o:Oper} {a:Act} {w W:World} {bs:List (Nat × Nat)} {cs:List (Array Value)}
theorem Fm.Vb (F:Fm w W bs cs) (i off:Nat) (hgd:o.guard = none) (ty:TypeId) (x:Operand) (ho:o.op = .load ty x) {b:Nat × Nat} {c:Array Value} (hb:bs[i]? = some b) (hc:cs[i]? = some c) (hx:a.eval x = .pointer (some ⟨b.1,off,none⟩)) (r:List Value) (hr:∀ j v,r[j]? = some v → c[off + j]? = some v) {d:TypeDesc} (hu:P.underlying ty = some d) (hd:d.isRow = true) (hi:(P.info? ty).map (·.size) = some r.length)
  (h:wpList P ops Q rest (a.put o.dst (.agg r.toArray)) W):wpList P ops Q (o :: rest) a W :=
 wpList_load_mid hgd ty x ho b.1 off hx r d (PG (F.get i hb hc) hr) hu hd hi h
theorem Fm.Y5 (F:Fm w W bs cs) (i off:Nat) (hgd:o.guard = none) (hN:o.dst = none) (ty:TypeId) (x y:Operand) (ho:o.op = .store ty x y) {b:Nat × Nat} {c r:Array Value} (hb:bs[i]? = some b) (hc:cs[i]? = some c) (hx:a.eval x = .pointer (some ⟨b.1,off,none⟩)) (hy:a.eval y = .agg r) (hl:off + r.size ≤ c.size) (hi:(P.info? ty).map (·.size) = some r.size) (h1:r.all (·.oneCell') = true)
  (k:∀ W',Fm w W' bs (cs.set i (wr c off r.toList)) → Steps.At b.1 W W' → wpList P ops Q rest a W'):wpList P ops Q (o :: rest) a W:=by
 refine wpList_store_mid hgd ty x y ho b.1 off r hx hy (Lc (F.get i hb hc) hl) hi h1 ?_
 rw [hN]
 have hA:=L6 r.toList W b.1 off
 exact k _ (F.put i hb hA (Kv _ _ _ _ _ _ _ (F.get i hb hc))) hA
theorem QK (ty:TypeId) (ad:Addr) (v:Value) (h:v.cells = #[v]):storeVar ty ad v = storeVar ty ad (.agg #[v]):=by
 unfold storeVar
 rw [h]
 rfl
theorem Kw {o:Oper} {a:Act} {w:World} {K:Act → World → Prop} {Q:Exit → Act → World → Prop} (ty:TypeId) (x y:Operand) (ho:o.op = .store ty x y) (b j:Nat) (v:Value) (hx:a.eval x = .pointer (some ⟨b,j,none⟩)) (hy:a.eval y = v) (hv:v.cells = #[v]) (ht:w.there b j 1) (hi:(P.info? ty).map (·.size) = some 1) (h1:v.oneCell' = true) (h:K (a.put o.dst undef) (w.setCell ⟨b,j,none⟩ v)):o.wp P a w K Q:=by
 have hr:=run_storeVar_mid (P:=P) w b j ty #[v] ht hi (by simp [h1])
 rw [← QK ty _ v hv] at hr
 unfold Oper.wp execOp
 simp only [ho,hx,hy,Instr.storeAt,Instr.sureAddr,Sem.run_bind,Sem.run_pure,Result.andThen_ok,hr]
 exact h
theorem Fm.st1 (F:Fm w W bs cs) (i:Nat) {j:Nat} (hgd:o.guard = none) (hN:o.dst = none) (ty:TypeId) (x y:Operand) (ho:o.op = .store ty x y) {b:Nat × Nat} {c:Array Value} {v:Value} (hb:bs[i]? = some b) (hc:cs[i]? = some c) (hx:a.eval x = .pointer (some ⟨b.1,j,none⟩)) (hy:a.eval y = v) (hv:v.cells = #[v]) (hl:j < c.size) (hi:(P.info? ty).map (·.size) = some 1) (h1:v.oneCell' = true)
  (k:∀ W',Fm w W' bs (cs.set i (c.setIfInBounds j v)) → Steps.At b.1 W W' → wpList P ops Q rest a W'):wpList P ops Q (o :: rest) a W :=
 wpList_plain hgd fun _ hK => Kw ty x y ho b.1 j v hx hy hv (Lc (F.get i hb hc) (by omega)) hi h1 (hK _ _ (by
  rw [hN]
  exact k _ (F.EP i hb hc j v) (Steps.At.set (Steps.At.refl _ _) _ _)))
theorem Fm.N7 (F:Fm w W bs cs) (i:Nat) {j:Nat} {K:Act → World → Prop} (hw:Region.wanted o (yielded ops a.tmps) = true) (hN:o.dst = none) (ty:TypeId) (x y:Operand) (ho:o.op = .store ty x y) {b:Nat × Nat} {c:Array Value} {v:Value} (hb:bs[i]? = some b) (hc:cs[i]? = some c) (hx:a.eval x = .pointer (some ⟨b.1,j,none⟩)) (hy:a.eval y = v) (hv:v.cells = #[v]) (hl:j < c.size) (hi:(P.info? ty).map (·.size) = some 1) (h1:v.oneCell' = true)
  (k:∀ W',Fm w W' bs (cs.set i (c.setIfInBounds j v)) → Steps.At b.1 W W' → K a W'):if Region.wanted o (yielded ops a.tmps) = true then Oper.wp P o a W K Q else K (a.put none undef) W:=by
 rw [if_pos hw]
 refine Kw ty x y ho b.1 j v hx hy hv (Lc (F.get i hb hc) (by omega)) hi h1 ?_
 rw [hN]
 exact k _ (F.EP i hb hc j v) (Steps.At.set (Steps.At.refl _ _) _ _)
theorem EN {o:Oper} {a:Act} {w:World} (ty:TypeId) (x:Operand) (ho:o.op = .load ty x) (g:Nat) (hx:a.eval x = .pointer (some ⟨g,0,none⟩)) (t:TypeId) (cs:Array Value) (fr:Nat × Nat) (d:TypeDesc) (hg:w.heap[g]? = some (.cells cs t fr))
  (hu:P.underlying ty = some d) (hd:(match d with | .struct _ | .array _ _ => true | _ => false) = true) (hi:(P.info? ty).map (·.size) = some cs.size):(execOp a.eval o).run P w = .ok (.value (.agg cs)) w:=by
 unfold execOp
 simp only [ho,hx,Instr.loadAt,Instr.sureAddr,Sem.run_bind,Sem.run_pure,Result.andThen_ok,run_loadVar_row w g t ty cs fr d hg hu hd hi]
theorem N8 {o:Oper} {a:Act} {w:World} (ty:TypeId) (x:Operand) (ho:o.op = .load ty x) (b off:Nat) (hx:a.eval x = .pointer (some ⟨b,off,none⟩)) (r:List Value) (d:TypeDesc) (hg:w.rangeAt b off r)
  (hu:P.underlying ty = some d) (hd:d.isRow = true) (hi:(P.info? ty).map (·.size) = some r.length):(execOp a.eval o).run P w = .ok (.value (.agg r.toArray)) w:=by
 unfold execOp
 simp only [ho,hx,Instr.loadAt,Instr.sureAddr,Sem.run_bind,Sem.run_pure,Result.andThen_ok,run_loadVar_mid w b off ty r d hg hu hd hi]
end
def Fx (w W0 W:World) (bs:List (Nat × Nat)) (cs:List (Array Value)):Prop:=Fm w W bs cs ∧ Below W0.heap.size W0 W
theorem Fx.below {w W0 W W':World} {bs:List (Nat × Nat)} {cs:List (Array Value)} (F:Fx w W0 W bs cs) (hb:Below W.heap.size W W'):Fx w W0 W' bs cs:=⟨F.1.below hb,F.2.trans (hb.mono F.2.size)⟩
theorem Fx.CO {w W0 W:World} {bs:List (Nat × Nat)} {cs:List (Array Value)} (F:Fx w W0 W bs cs) (i:Nat) {b:Nat × Nat} {c:Array Value} (hb:bs[i]? = some b) (hc:cs[i]? = some c) (j:Nat):W.cell? ⟨b.1,j,none⟩ = c[j]?:=F.1.CO i hb hc j
section
variable {P:Program} {ops:Array Oper} {Q:Exit → Act → World → Prop} {ds:List Nat} {id n:Nat} {a:Act} {w W:World} {bs:List (Nat × Nat)} {cs:List (Array Value)}
theorem FX (F:Fm w W.drew bs cs) (l:Array Bool) (hm:P.follows .mixedOrders = true) (hn:ops.size = n) (hl:Array.replicate n false = l)
  (h:Fm w W.drew bs cs → Ah P .any ops Q (fun w' => Fm w w' bs cs) ds n l a W.drew):(Code.region id ops true).wp P Q a W:=BA (S:=fun w' => Fm w w' bs cs) l hm hn hl F h
theorem cu (F:Fm w W.drew bs cs) (l:Array Bool) (hm:P.follows .mixedOrders = true) (hn:ops.size = n) (hl:Array.replicate n false = l)
  (h:Fx w W W.drew bs cs → Ah P .any ops Q (fun w' => Fx w W w' bs cs) ds n l a W.drew):(Code.region id ops true).wp P Q a W:=BA (S:=fun w' => Fx w W w' bs cs) l hm hn hl ⟨F,AZ (Below.refl _ _)⟩ h
end
def SE (w:World) (bs:List (Nat × Nat)) (c0 c3 c4:Array Value) (w':World):Prop:=∃ cs:List (Array Value),cs[0]? = some c0 ∧ (∃ c:Array Value,cs[2]? = some c ∧ c.size = 12) ∧ cs[3]? = some c3 ∧ cs[4]? = some c4 ∧ Fm w w' bs cs
theorem SE.put {w W W':World} {bs:List (Nat × Nat)} {c0 c3 c4 row:Array Value} (h:SE w bs c0 c3 c4 W) {b:Nat} (hb:bs[2]? = some (b,78)) (hA:Steps.At b W W') (hx:W'.heap[b]? = some (.cells row 78 (0,0))) (hr:row.size = 12) :
  SE w bs c0 c3 c4 W' ∧ ∃ cs:List (Array Value),cs[2]? = some row ∧ cs[3]? = some c3 ∧ cs[4]? = some c4 ∧ Fm w W' bs cs:=by
 obtain ⟨cs,h0,⟨c,h2,hs⟩,h3,h4,hF⟩:=h
 have hl:=(List.getElem?_eq_some_iff.1 h2).1
 have F2:=hF.put 2 hb hA hx
 have e2:(cs.set 2 row)[2]? = some row:=List.getElem?_set_self hl
 have e3:(cs.set 2 row)[3]? = some c3:=(List.getElem?_set_ne (by decide)).trans h3
 have e4:(cs.set 2 row)[4]? = some c4:=(List.getElem?_set_ne (by decide)).trans h4
 exact ⟨⟨cs.set 2 row,(List.getElem?_set_ne (by decide)).trans h0,⟨row,e2,hr⟩,e3,e4,F2⟩,_,e2,e3,e4,F2⟩
structure RP (S:Nat → Prop) (w:World) (X:Pr.Pr) (cs:Array Value):Prop where
 size:cs.size = 27
 one:cs.all (·.oneCell') = true
 e:∀ s,s < 2 → ∃ nx Aq cq Ao co,RE S w (X.sd s).end_ nx Aq cq Ao co ∧ ∀ j v,(ev (X.sd s).end_ nx (.slice Aq (X.sd s).end_.queue.length cq) (.slice Ao (X.sd s).end_.out.length co)).toList[j]? = some v → cs[s * 12 + j]? = some v
 l:∀ s,s < 2 → ∃ A c,cs[24 + s]? = some (.slice A (X.sd s).log.length c) ∧ (X.sd s).log.length ≤ c ∧ qh.L S w A (X.sd s).log.length (X.sd s).log
 y:∃ A c,cs[26]? = some (.slice A X.way.length c) ∧ X.way.length ≤ c ∧ aB.L S w A X.way.length X.way
theorem CU {cs:Array Value} (h:cs.size = 27):(Try.prog.info? 84).map (·.size) = some cs.size:=by rw [h]; kernel_rfl
section
variable {S S':Nat → Prop} {w w':World} {X Y:Pr.Pr} {cs:Array Value}
theorem RP.keep (h:RP S w X cs) (hk:Kept w w' S):RP S w' X cs:=by
 refine ⟨h.size,h.one,fun s hs => ?_,fun s hs => ?_,?_⟩
 ·obtain ⟨nx,Aq,cq,Ao,co,h1,h2⟩:=h.e s hs
  exact ⟨nx,Aq,cq,Ao,co,h1.keep hk,h2⟩
 ·obtain ⟨A,c,h1,h2,h3⟩:=h.l s hs
  exact ⟨A,c,h1,h2,h3.keep hk⟩
 ·obtain ⟨A,c,h1,h2,h3⟩:=h.y
  exact ⟨A,c,h1,h2,h3.keep hk⟩
theorem RP.below (h:RP S w X cs) (hb:Below w.heap.size w w'):RP S w' X cs:=h.keep (Kept.of_below hb _)
theorem RP.up (hs:∀ k,S' k → S k ∨ w.heap.size ≤ k) (h:RP S w X cs):RP S' w X cs:=by
 refine ⟨h.size,h.one,fun s h0 => ?_,fun s h0 => ?_,?_⟩
 ·obtain ⟨nx,Aq,cq,Ao,co,h1,h2⟩:=h.e s h0
  exact ⟨nx,Aq,cq,Ao,co,h1.up hs,h2⟩
 ·obtain ⟨A,c,h1,h2,h3⟩:=h.l s h0
  exact ⟨A,c,h1,h2,h3.up (by decide) hs⟩
 ·obtain ⟨A,c,h1,h2,h3⟩:=h.y
  exact ⟨A,c,h1,h2,h3.up (by decide) hs⟩
theorem RP.eq (h:RP S w X cs) (he:∀ s,s < 2 → (Y.sd s).end_ = (X.sd s).end_ ∧ (Y.sd s).log = (X.sd s).log) (hy:Y.way = X.way):RP S w Y cs:=by
 refine ⟨h.size,h.one,fun s hs => ?_,fun s hs => ?_,?_⟩
 ·rw [(he s hs).1]; exact h.e s hs
 ·rw [(he s hs).2]; exact h.l s hs
 ·rw [hy]; exact h.y
theorem kP (L:Lk) (nx:Int) {q o:Value} (hq:q.oneCell' = true) (ho:o.oneCell' = true):∀ v ∈ (ev L nx q o).toList,v.oneCell' = true:=fun v hv => by
 unfold ev at hv
 simp at hv
 rcases hv with h | h | h | h | h | h | h | h | h | h | h | h <;> subst h <;> first | rfl | assumption
theorem RP.N9 (h:RP S w X cs) {s:Nat} (hs:s < 2) {L:Lk} {nx:Int} {Aq:Option Addr} {cq:Nat} {Ao:Option Addr} {co:Nat} (hE:RE S w L nx Aq cq Ao co):RP S w (X.set s (Pr.Ai (X.sd s) L)) (wr cs (s * 12) (ev L nx (.slice Aq L.queue.length cq) (.slice Ao L.out.length co)).toList):=by
 have hsz:=h.size
 have hln:(ev L nx (.slice Aq L.queue.length cq) (.slice Ao L.out.length co)).toList.length = 12:=rfl
 refine ⟨(Va _ _ _).trans hsz,Y4 _ _ _ h.one (kP L nx rfl rfl),fun t ht => ?_,fun t ht => ?_,?_⟩
 ·by_cases hts:t = s
  ·subst hts
   rw [Pr.Pr.Ae]
   exact ⟨nx,Aq,cq,Ao,co,hE,fun j v hv => Y3 _ _ _ _ _ hv (by have hj:j < 12:=(List.getElem?_eq_some_iff.1 hv).1; omega)⟩
  ·rw [Pr.Pr.BP X hts]
   obtain ⟨PE,aN,aO,gB,gG,h1,h2⟩:=h.e t ht
   refine ⟨PE,aN,aO,gB,gG,h1,fun j v hv => (Nz _ _ _ _ ?_).trans (h2 j v hv)⟩
   have hj:j < 12:=(List.getElem?_eq_some_iff.1 hv).1
   omega
 ·have e:((X.set s (Pr.Ai (X.sd s) L)).sd t).log = (X.sd t).log:=by
   by_cases hts:t = s
   ·subst hts; rw [Pr.Pr.Ae]; rfl
   ·rw [Pr.Pr.BP X hts]
  rw [e]
  obtain ⟨A,c,h1,h2,h3⟩:=h.l t ht
  exact ⟨A,c,(Nz _ _ _ _ (by omega)).trans h1,h2,h3⟩
 ·obtain ⟨A,c,h1,h2,h3⟩:=h.y
  exact ⟨A,c,(Nz _ _ _ _ (by omega)).trans h1,h2,h3⟩
theorem RP.WM (h:RP S w X cs) {s:Nat} (hs:s < 2) {A:Option Addr} {c:Nat} {l:List Pr.Ei} (hl:l.length ≤ c) (hL:qh.L S w A l.length l):RP S w (X.set s { X.sd s with log:=l }) (cs.setIfInBounds (24 + s) (.slice A l.length c)):=by
 have hsz:=h.size
 refine ⟨by simp [hsz],Ku h.one _ rfl,fun t ht => ?_,fun t ht => ?_,?_⟩
 ·have e:((X.set s { X.sd s with log:=l }).sd t).end_ = (X.sd t).end_:=by
   by_cases hts:t = s
   ·subst hts; rw [Pr.Pr.Ae]
   ·rw [Pr.Pr.BP X hts]
  rw [e]
  obtain ⟨PE,aN,aO,gB,gG,h1,h2⟩:=h.e t ht
  refine ⟨PE,aN,aO,gB,gG,h1,fun j v hv => (Array.getElem?_setIfInBounds_ne ?_).trans (h2 j v hv)⟩
  have hj:j < 12:=(List.getElem?_eq_some_iff.1 hv).1
  omega
 ·by_cases hts:t = s
  ·subst hts
   rw [Pr.Pr.Ae]
   exact ⟨A,c,Array.getElem?_setIfInBounds_self_of_lt (by omega),hl,hL⟩
  ·rw [Pr.Pr.BP X hts]
   obtain ⟨A,c,h1,h2,h3⟩:=h.l t ht
   exact ⟨A,c,(Array.getElem?_setIfInBounds_ne (by omega)).trans h1,h2,h3⟩
 ·obtain ⟨A,c,h1,h2,h3⟩:=h.y
  exact ⟨A,c,(Array.getElem?_setIfInBounds_ne (by omega)).trans h1,h2,h3⟩
theorem Z59 {p:Prop} (h:p:=by
 refine ⟨PE,aN,aO,gB,gG,h1,fun j v hv => (Array.getElem?_setIfInBounds_ne ?_).trans (h2 j v hv)⟩
 have hj:j < 12:=(List.getElem?_eq_some_iff.1 hv).1
 omega):p:=h
theorem RP.UZ (h:RP S w X cs) {A:Option Addr} {c:Nat} {l:List Pr.Fl} (hl:l.length ≤ c) (hL:aB.L S w A l.length l):RP S w { X with way:=l } (cs.setIfInBounds 26 (.slice A l.length c)):=by
 have hsz:=h.size
 refine ⟨by simp [hsz],Ku h.one _ rfl,fun t ht => ?_,fun t ht => ?_,?_⟩
 ·obtain ⟨PE,aN,aO,gB,gG,h1,h2⟩:=h.e t ht
  exact Z59
 ·obtain ⟨A,c,h1,h2,h3⟩:=h.l t ht
  exact ⟨A,c,(Array.getElem?_setIfInBounds_ne (by omega)).trans h1,h2,h3⟩
 ·exact ⟨A,c,Array.getElem?_setIfInBounds_self_of_lt (by omega),hl,hL⟩
end
theorem Fm.two (w:World) (a b:Array Value) (ta tb:Nat):Fm w ((w.alloc (.cells a ta)).alloc (.cells b tb)) [(w.heap.size,ta),(w.heap.size + 1,tb)] [a,b]:=by
 refine ⟨Io w _ _,fun i x y hi hy => ?_,fun x hx => ?_,fun x hx => ?_,fun i j x y hi hj hn => ?_⟩
 ·match i,hi,hy with
  | 0,hi,hy => cases hi; cases hy; exact Jq _ _ _
  | 1,hi,hy => cases hi; cases hy; exact Ij _ _ _
 ·simp only [List.mem_cons,List.not_mem_nil,or_false] at hx
  rcases hx with h | h <;> subst h <;> simp
 ·simp only [List.mem_cons,List.not_mem_nil,or_false] at hx
  rcases hx with h | h <;> subst h <;> simp <;> omega
 ·have hi5:i < 2:=by have:=(List.getElem?_eq_some_iff.1 hi).1; simpa using this
  have zZ:j < 2:=by have:=(List.getElem?_eq_some_iff.1 hj).1; simpa using this
  have hx:x.1 = w.heap.size + i:=by
   match i,hi with
   | 0,hi => cases hi; rfl
   | 1,hi => cases hi; rfl
  have hy:y.1 = w.heap.size + j:=by
   match j,hj with
   | 0,hj => cases hj; rfl
   | 1,hj => cases hj; rfl
  omega
theorem Rq {S:Nat → Prop} {w:World} (hS:∀ k,S k → k < w.heap.size) (L:Lk) (nx:Int) (Aq:Option Addr) (cq:Nat) (Ao:Option Addr) (co:Nat) (kind:Int) (body:List Int) (Ab:Option Addr) (cb:Nat) (hb:Gl S w Ab body) (hl:body.length ≤ 10000) :
  Calls Try.prog 87 #[EV L nx Aq L.queue.length cq Ao L.out.length co,.int .i64 kind,.slice Ab body.length cb] w fun e w' => (∃ A c,e = .returned (.agg #[.int .i64 kind,.int .u32 L.own,.int .u32 L.token,.int .u32 L.AB,.int .u32 L.yours,.slice A body.length c]) ∧ Gl S w' A body ∧ body.length ≤ c) ∧ Below w.heap.size w w':=by
 have HS:=Lib.hid hS
 have BB:=Lib.hid hb
 have Yc:=Lib.hid hl
 clear hS hb hl
 have Df:=Try.underlying78
 have Ff:=Try.underlying156
 go_enter Try.func87,Try.ntmps87
 go_wp2_with fail
 have F2:=Fm.two w #[.int .u32 L.own,.int .i64 L.phase,.int .u32 L.token,.int .u32 L.AB,.int .u32 L.yours,.bool L.known,.slice Aq L.queue.length cq,.int .i64 L.sent,.int .u32 nx,.int .u32 L.expected,.int .i64 L.idle,.slice Ao L.out.length co] #[.int .i64 0,.int .u32 0,.int .u32 0,.int .u32 0,.int .u32 0,.slice none 0 0] 78 156
 obtain ⟨w0,hw0⟩:∃ w0,w0 = (w.alloc (.cells #[.int .u32 L.own,.int .i64 L.phase,.int .u32 L.token,.int .u32 L.AB,.int .u32 L.yours,.bool L.known,.slice Aq L.queue.length cq,.int .i64 L.sent,.int .u32 nx,.int .u32 L.expected,.int .i64 L.idle,.slice Ao L.out.length co] 78)).alloc (.cells #[.int .i64 0,.int .u32 0,.int .u32 0,.int .u32 0,.int .u32 0,.slice none 0 0] 156):=⟨_,rfl⟩
 rw [← hw0] at F2 ⊢
 clear hw0
 have F3:=Lib.hid (F2.below (AZ (Below.refl _ _)))
 clear F2
 refine FX (n:=14) (ds:=[13]) F3.out xI (by kernel_rfl) rfl rfl (fun hHeld => ?_)
 generalize w0.drew = w1 at hHeld ⊢
 have FS:=Lib.hid hHeld
 clear F3
 have HW1:=Lib.hid FS.out.bw.size
 have WS:=Lib.hid (FS.out.lt (w.heap.size + 1,156) (by simp))
 refine pu 0 7 xJ ?_
 refine pu 1 8 xK ?_
 refine tk 2 9 xM hHeld ?_ (hf:=by intro w' s0; have Cb:=s0.CO 0 rfl rfl; clear s0; go_simp; with_reducible rfl)
 refine pu 3 10 xN ?_
 refine tk 4 11 xO hHeld ?_ (hf:=by intro w' s0; have Cb:=s0.CO 0 rfl rfl; clear s0; go_simp; with_reducible rfl)
 refine pu 5 12 xP ?_
 refine tk 6 13 xQ hHeld ?_ (hf:=by intro w' s0; have Cb:=s0.CO 0 rfl rfl; clear s0; go_simp; with_reducible rfl)
 refine pu 7 14 xR ?_
 refine tk 8 15 xU hHeld ?_ (hf:=by intro w' s0; have Cb:=s0.CO 0 rfl rfl; clear s0; go_simp; with_reducible rfl)
 refine pu 10 17 M3Q ?_
 refine on 9 (some 16) xW fun K hK => ?_
 have F3:=Lib.hid hHeld
 clear hHeld
 refine Kd.Ju (Kd.int .u8) (w0:=w1) (W:=w1) w1.heap.size 5 (by rfl) (N:=16) rfl (xs:=[]) (inner:=[]) (ok:=fun _ => True) (CY:=fun _ => False) (by first | (go_simp; done) | (go_simp; rfl)) (CV.none _ _) (fun _ hk => False.elim hk) trivial (Below.refl _ _) (Nat.le_refl _) (by decide) ?_
 intro zf w3 gI gJ _ _
 have gK:=Lib.hid gI
 have Vd:=Lib.hid gJ
 clear gI gJ
 refine hK.out _ _ (F3.out.below Vd.out) (fun hHeld => ?_)
 clear hK K
 refine nm 16 ?_
 refine on 11 (some 18) xX fun K hK => ?_
 have F3:=Lib.hid hHeld
 clear hHeld
 refine Kd.BO (Kd.int .u8) (Rr:=fun x cs => cs = [Value.int .u8 x]) (w0:=w1) (W:=w3) w1.heap.size (by rfl) (.tmp 16) (.tmp 17) 22 5 (.int .u8 0) 1 rfl Try.underlying22 LZ rfl (by decide) (by decide) zf [] body Ab body.length cb (fun _ => True) (fun _ => False) rfl rfl gK.out (BB.out.below F3.out.bw).1 (fun _ _ hx => hx) (fun _ hf => hf.elim) (fun _ _ => trivial) Vd.out Vd.out.size (by have:=Yc.out; simp only [List.length_nil]; omega) ?_
 intro v4 w4 Ji hB4 hg4 _
 obtain ⟨A4,c4,hv4⟩:=Kd.Am Ji
 rw [List.nil_append] at Ji hv4
 subst hv4
 have hbt:=QI (S:=fun k => S k ∨ k = w.heap.size + 1) (fun k hk => hk.elim (fun x => Nat.lt_of_lt_of_le (HS.out k x) HW1.out) (fun x => x ▸ WS.out)) Ji
 have Gf:=Lib.hid hbt
 have F4:=Lib.hid (FS.out.below hB4)
 clear Ji hB4 hg4 hbt gK Vd
 refine hK.out _ _ F4.out (fun hHeld => ?_)
 clear hK K F3
 refine nm 18 ?_
 refine pu 12 19 xY ?_
 refine la 13 none xg fun K hK => ?_
 refine row_step (by rfl) rfl 156 (.tmp 6) (.tmp 19) rfl (w.heap.size + 1) _ rfl rfl 156 _ (F4.out.get 1 rfl rfl) (by kernel_rfl) rfl (by kernel_rfl) (fun w5 hb7 Ba => ?_)
 have F5:=Lib.hid (F4.out.put 1 rfl Ba hb7)
 have HAT:=Lib.hid Ba
 clear hb7 Ba
 refine hK.out _ _ ?_
 clear hK K
 refine BG (by kernel_rfl) ?_
 go_wp2
 have Dt:=run_loadVar_row (P:=Try.prog) w5 _ 156 156 _ (0,0) _ (F5.out.get 1 rfl rfl) Try.underlying156 rfl (by kernel_rfl)
 refine bodyPost_ret (v:=_) (Pk.results_cell Try.results87 _ _ rfl Dt) rfl ?_
 exact ⟨⟨_,_,rfl,(Gf.out.1.keep (AP HAT.out (.inr rfl))).up (fun k hk => .inl (.inl hk)),Gf.out.2.2⟩,F5.out.bw⟩
theorem Fm.three (w:World) (a b c:Array Value) (ta tb tc:Nat):Fm w (((w.alloc (.cells a ta)).alloc (.cells b tb)).alloc (.cells c tc)) [(w.heap.size,ta),(w.heap.size + 1,tb),(w.heap.size + 2,tc)] [a,b,c]:=by
 have h:=(Fm.two w a b ta tb).add rfl c tc
 rw [show ((w.alloc (.cells a ta)).alloc (.cells b tb)).heap.size = w.heap.size + 2 by simp] at h
 exact h
theorem QL {S:Nat → Prop} {w W:World} (hS:∀ k,S k → k < w.heap.size) {n e:Nat} {ok:Nat → Prop} {A:Option Addr} {m c:Nat} {rows:List (List Value)} (h:(Dc n).R e W w.heap.size ok (.slice A m c) rows):(Dc n).C W A m rows ∧ m = rows.length ∧ m ≤ c ∧ nS S A:=by
 obtain ⟨hn,hl,hC⟩:=Kd.Bi h
 refine ⟨by rw [hn]; exact hC,hn,hl,fun ad had hx => ?_⟩
 subst had
 have h1:=((Kd.Du h).1 ad.block rfl).2.1
 have h2:=hS _ hx
 omega
def OA (X:Pr.Pr) (s:Nat) (x:Pr.Ei):Pr.Pr:=X.set s { X.sd s with log:=(X.sd s).log ++ [x] }
theorem JW {S:Nat → Prop} {w:World} (hS:∀ k,S k → k < w.heap.size) {X:Pr.Pr} {cs:Array Value} (hP:RP S w X cs) (s:Nat) (hs:s < 2) (x:Pr.Ei) (Ab:Option Addr) (cb:Nat) (hb:Gl S w Ab x.body) (hc:x.body.length ≤ cb) (hl:(X.sd s).log.length ≤ 1000000) :
  Calls Try.prog 86 #[.agg cs,.int .i64 (s:Int),.agg #[.int .i64 x.kind,.int .u32 x.AB,.int .u32 x.mine,.int .u32 x.peer,.int .u32 x.yours,.slice Ab x.body.length cb]] w fun e w' => (∃ cs',e = .returned (.agg cs') ∧ RP S w' (OA X s x) cs') ∧ Below w.heap.size w w':=by
 obtain ⟨A,c,hcl,hlc,rows,hC,hnS,hrl,hK⟩:=hP.l s hs
 have HS:=Lib.hid hS
 have HP:=Lib.hid hP
 have OU:=Lib.hid hP.size
 have zg:=Lib.hid hP.one
 have BB:=Lib.hid hb
 have V9:=Lib.hid hc
 have qy:=Lib.hid hl
 have HR:=Lib.hid (show (Dc 6).C w A (X.sd s).log.length rows from hC)
 have bD:=Lib.hid hrl
 have HK:=Lib.hid hK
 have Ib:=Try.underlying84
 have Jj:=Try.underlying81
 have Ff:=Try.underlying156
 clear hS hP hb hc hl hC hnS hrl hlc
 have zh:=Lib.hid (show rows.length ≤ 1000000 from by have:=bD.out; have:=qy.out; omega)
 have HCL:=Lib.hid hcl
 have hsi:(s:Int) < 2:=by omega
 clear hcl hK
 go_enter Try.func86,Try.ntmps86
 go_wp2_with fail
 have F2:=Fm.three w cs #[.int .i64 x.kind,.int .u32 x.AB,.int .u32 x.mine,.int .u32 x.peer,.int .u32 x.yours,.slice Ab x.body.length cb] #[.int .u32 0,.int .i64 0,.int .u32 0,.int .u32 0,.int .u32 0,.bool false,.slice none 0 0,.int .i64 0,.int .u32 0,.int .u32 0,.int .i64 0,.slice none 0 0,.int .u32 0,.int .i64 0,.int .u32 0,.int .u32 0,.int .u32 0,.bool false,.slice none 0 0,.int .i64 0,.int .u32 0,.int .u32 0,.int .i64 0,.slice none 0 0,.slice none 0 0,.slice none 0 0,.slice none 0 0] 84 156 84
 obtain ⟨w0,hw0⟩:∃ w0,w0 = (((w.alloc (.cells cs 84)).alloc (.cells #[.int .i64 x.kind,.int .u32 x.AB,.int .u32 x.mine,.int .u32 x.peer,.int .u32 x.yours,.slice Ab x.body.length cb] 156)).alloc (.cells #[.int .u32 0,.int .i64 0,.int .u32 0,.int .u32 0,.int .u32 0,.bool false,.slice none 0 0,.int .i64 0,.int .u32 0,.int .u32 0,.int .i64 0,.slice none 0 0,.int .u32 0,.int .i64 0,.int .u32 0,.int .u32 0,.int .u32 0,.bool false,.slice none 0 0,.int .i64 0,.int .u32 0,.int .u32 0,.int .i64 0,.slice none 0 0,.slice none 0 0,.slice none 0 0,.slice none 0 0] 84)):=⟨_,rfl⟩
 rw [← hw0] at F2 ⊢
 clear hw0
 have F3:=Lib.hid (F2.below (AZ (Below.refl _ _)))
 clear F2
 refine FX (n:=13) (ds:=[12]) F3.out vW (by kernel_rfl) rfl rfl (fun hHeld => ?_)
 generalize w0.drew = w1 at hHeld ⊢
 have FS:=Lib.hid hHeld
 clear F3
 refine pu 0 7 xE ?_
 refine pu 2 9 M3O ?_
 refine pu 3 10 M3R ?_
 refine pu 4 11 M3T ?_
 refine tk 5 12 M3V hHeld ?_ (hf:=by intro w' s0; have Cb:=s0.CO 0 rfl rfl; have hq:=HCL.out; clear s0; go_simp; with_reducible rfl)
 refine tk 7 14 M3X hHeld ?_ (hf:=by intro w' hF; refine EN 156 (.tmp 5) ?_ _ ?_ 156 _ (0,0) _ (hF.get 1 rfl rfl) Try.underlying156 rfl (by kernel_rfl) <;> rfl)
 refine pu 10 17 M3Z ?_
 have F3:=Lib.hid hHeld
 refine Px (iE:=1) (iC:=6) (iY:=8) (NE:=8) (NC:=13) (NY:=15) (NS:=12) (NV:=14) (fuel:=3) M41 M42 M45 M46 M48 6 80 156 (.agg #[.int .i64 0,.int .u32 0,.int .u32 0,.int .u32 0,.int .u32 0,.slice none 0 0]) 48 rfl rfl rfl rfl rfl rfl (by kernel_rfl) (by decide) (by decide) (by decide) (fun _ => rfl) (fun _ => rfl) (fun _ => rfl) rfl Try.underlying80 (by kernel_rfl) rfl (by decide) (by decide) (by decide) (by simp) (fun a' W => by first | (go_simp; done) | (go_simp; rfl)) (.agg #[.int .i64 x.kind,.int .u32 x.AB,.int .u32 x.mine,.int .u32 x.peer,.int .u32 x.yours,.slice Ab x.body.length cb]) [.int .i64 x.kind,.int .u32 x.AB,.int .u32 x.mine,.int .u32 x.peer,.int .u32 x.yours,.slice Ab x.body.length cb] rfl (by simp [Value.oneCell']) rfl (fun a' W hv => by (have hv2:a'.tmps[14]?.getD undef = (.agg #[.int .i64 x.kind,.int .u32 x.AB,.int .u32 x.mine,.int .u32 x.peer,.int .u32 x.yours,.slice Ab x.body.length cb]:Value):=(by simpa [Act.eval] using hv)); first | (go_simp; done) | (go_simp; rfl)) A _ c rows rfl (Kd.Cm HR.out FS.out.bw) (by have:=qy.out; have:=zh.out; omega) (fun w' hb => F3.out.below hb) ?_
 clear hHeld
 intro vE vC AY w5 RH UJ Nb hHeld
 have aC:=Lib.hid RH
 have aF:=Lib.hid UJ
 have FN:=Lib.hid Nb
 clear RH UJ Nb
 refine Ig (a':=?_) ?_ ?_
 rotate_left
 ·simp only [Act.put,sA,sZ,sS]
  rfl
 refine on 9 (some 16) vX fun K hK => ?_
 refine Kd.BO (Dc 6) (Rr:=fun x cs => cs = x ∧ x.length = 6 ∧ ∀ u ∈ x,u.oneCell' = true) (w0:=w1) (W:=w5) w1.heap.size (by rfl) (.tmp 13) (.tmp 15) 80 156 (.agg #[.int .i64 0,.int .u32 0,.int .u32 0,.int .u32 0,.int .u32 0,.slice none 0 0]) 48 rfl Try.underlying80 (by kernel_rfl) rfl (by decide) (by decide) vC rows [[.int .i64 x.kind,.int .u32 x.AB,.int .u32 x.mine,.int .u32 x.peer,.int .u32 x.yours,.slice Ab x.body.length cb]] AY 1 1 (fun k => w1.heap.size ≤ k) (fun _ => False) rfl rfl aC.out aF.out (fun _ _ hx => hx) (fun _ hf => hf.elim) (fun k hk => Nat.le_trans FN.out.size hk) FN.out FN.out.size (by have:=zh.out; have:=zh.out; omega) ?_
 intro v7 w6 LM MH Nc _
 have RI:=Lib.hid LM
 have IE:=Lib.hid MH
 clear LM MH Nc hHeld aC aF FN
 refine hK.out _ _ (F3.out.below IE.out) (fun hHeld => ?_)
 clear hK K F3
 refine nm 16 ?_
 refine pu 11 18 vY ?_
 refine la 12 none vZ fun K hK => ?_
 have F6:=Lib.hid hHeld
 clear hHeld
 obtain ⟨A7,c7,hv7⟩:=Kd.Am RI.out
 rw [show (rows ++ [([.int .i64 x.kind,.int .u32 x.AB,.int .u32 x.mine,.int .u32 x.peer,.int .u32 x.yours,.slice Ab x.body.length cb]:List Value)]).length = (_ ++ [x]:List Pr.Ei).length from by rw [List.length_append,List.length_append,bD.out]; rfl] at hv7
 subst hv7
 obtain ⟨Ua,dA,Fa,hS7⟩:=QL (FS.out.slt HS.out) RI.out
 rw [dA] at Ua
 have PD:=Lib.hid (FK.L.snoc (d:=qh) (x:=x) bD.out (fun i y r hy hr => qh.up FS.out.up (HK.out i y r hy hr)) (Kept.of_below F6.out.bw _) ⟨Ab,cb,rfl,V9.out,(BB.out.up FS.out.up).below F6.out.bw⟩ Ua hS7)
 have oI:=Lib.hid Fa
 clear Ua dA Fa hS7 RI
 refine F6.out.N7 0 (by rfl) rfl 80 (.tmp 18) (.tmp 16) rfl rfl rfl rfl rfl rfl (by have:=OU.out; omega) (by kernel_rfl) rfl (fun w7 hF hA => ?_)
 have F7:=Lib.hid hF
 have Yd:=Lib.hid hA
 clear hF hA F6
 refine hK.out _ _ ?_
 clear hK K
 refine BG (by kernel_rfl) ?_
 have UK:=Lib.hid (PD.out.keep (AP Yd.out (AX 0 rfl)))
 clear PD Yd
 go_wp2_with (first | (refine F7.out.ld 0 rfl 84 (.tmp 3) rfl rfl rfl rfl Try.underlying84 rfl (by rw [Array.size_setIfInBounds,OU.out]; kernel_rfl) ?_) | (refine F7.out.st 2 rfl rfl 84 (.tmp 6) (.tmp 19) rfl rfl rfl rfl rfl (by rw [Array.size_setIfInBounds,OU.out]; kernel_rfl) (by rw [Array.size_setIfInBounds,OU.out]; rfl) (Ku zg.out _ rfl) ?_; intro w8 hF hA; have F8:=Lib.hid hF; have Yv:=Lib.hid (UK.out.keep (AP hA (AX 2 rfl))); clear hF hA))
 have Dt:=run_loadVar_row (P:=Try.prog) w8 _ 84 84 _ (0,0) _ (F8.out.get 2 rfl rfl) Try.underlying84 rfl (by rw [Array.size_setIfInBounds,OU.out]; kernel_rfl)
 refine bodyPost_ret (v:=_) (Pk.results_cell Try.results86 _ _ rfl Dt) rfl ?_
 exact ⟨⟨_,rfl,(HP.out.below F8.out.bw).WM hs oI.out (Yv.out.up (by decide) EH)⟩,F8.out.bw⟩
theorem Y6 (A:Option Addr) (n c k:Nat) (hk:k ≤ c) (W:World):(Instr.slice 82 (.slice A n c) none (some (.int .i64 (k:Int))) none).run Try.prog W = .ok (.slice A k c) W:=by
 have hu:Try.prog.underlying 82 = some (.slice (Try.prog.elem 82)):=by kernel_rfl
 have e:=run_slice_h (P:=Try.prog) W 82 A n c hu IntKind.i64 (k:Int) (by omega) (by omega)
 have hs:(sizeOf (Try.prog.elem 82)).run Try.prog W = .ok 12 W:=by
  have:Try.prog.elem 82 = 163:=by kernel_rfl
  rw [this]
  obtain ⟨i0,hi0,_,hsz,_⟩:=info_parts (show (Try.prog.info? 163).map (fun i => (i.zero,i.size,i.bytes)) = some (some (.agg #[.int .i64 0,.int .u32 0,.int .i64 0,.int .u32 0,.int .u32 0,.int .u32 0,.int .u32 0,.int .u32 0,.int .u32 0,.int .u32 0,.complex .f64 0 0,.slice none 0 0]),12,96) from by kernel_rfl)
  go_simp
 rw [e,hs]
 show Result.ok (sliced A 0 ((k:Int).toNat) c 12) W = _
 unfold sliced
 simp only [Nat.zero_mul,Nat.sub_zero,Int.toNat_natCast]
 split
 ·rfl
 ·cases A <;> rfl
theorem Y7 (A:Option Addr) (n c k:Nat) (hk:k ≤ n) (hc:n ≤ c) (W:World):(Instr.slice 82 (.slice A n c) (some (.int .i64 (k:Int))) none none).run Try.prog W = .ok (.slice (if c = k then A else A.map (·.add (k * 12))) (n - k) (c - k)) W:=by
 have hu:Try.prog.underlying 82 = some (.slice (Try.prog.elem 82)):=by kernel_rfl
 have e:=run_slice_l (P:=Try.prog) W 82 A n c hu IntKind.i64 (k:Int) (by omega) (by omega)
 have hs:(sizeOf (Try.prog.elem 82)).run Try.prog W = .ok 12 W:=by
  have:Try.prog.elem 82 = 163:=by kernel_rfl
  rw [this]
  obtain ⟨i0,hi0,_,hsz,_⟩:=info_parts (show (Try.prog.info? 163).map (fun i => (i.zero,i.size,i.bytes)) = some (some (.agg #[.int .i64 0,.int .u32 0,.int .i64 0,.int .u32 0,.int .u32 0,.int .u32 0,.int .u32 0,.int .u32 0,.int .u32 0,.int .u32 0,.complex .f64 0 0,.slice none 0 0]),12,96) from by kernel_rfl)
  go_simp
 rw [e,hs]
 rfl
theorem JE {S:Nat → Prop} {w:World} (hS:∀ k,S k → k < w.heap.size) (l:List Pr.Fl) (A:Option Addr) (c:Nat) (hL:aB.L S w A l.length l) (hc:l.length ≤ c) (i:Nat) (hi:i < l.length) (hl:l.length ≤ 1024) :
  Calls Try.prog 91 #[.slice A l.length c,.int .i64 (i:Int)] w fun e w' => (∃ A' c',e = .returned (.slice A' (l.eraseIdx i).length c') ∧ aB.L S w' A' (l.eraseIdx i).length (l.eraseIdx i) ∧ (l.eraseIdx i).length ≤ c') ∧ Below w.heap.size w w':=by
 obtain ⟨rows,hC,hnS,hrl,hK⟩:=hL
 have hC':(Dc 12).C w A rows.length rows:=by rw [hrl]; exact hC
 have hT:=Kd.iW hC' (m:=i) (by omega)
 have hD:=Kd.Xn hC' (m:=i + 1) (c:=c) (by omega) (by omega)
 have h1:rows.length - (i + 1) = (rows.drop (i + 1)).length:=by simp
 have h2:i = (rows.take i).length:=by simp; omega
 have hs1:=fun W => Y6 A l.length c i (by omega) W
 have hs2:=fun W => Y7 A l.length c (i + 1) (by omega) hc W
 rw [← hrl,h1,show (((i + 1:Nat):Int)) = (i:Int) + 1 by omega] at hs2
 obtain ⟨A2,hA2⟩:∃ X,X = (if c = i + 1 then A else A.map (·.add ((i + 1) * 12))):=⟨_,rfl⟩
 rw [show (Dc 12).sz = 12 from rfl,← hA2] at hD
 rw [← hA2] at hs2
 have HS:=Lib.hid hS
 have HT:=Lib.hid hT
 have HD:=Lib.hid hD
 have HK:=Lib.hid hK
 have bD:=Lib.hid hrl
 have HI:=Lib.hid hi
 have HL:=Lib.hid hl
 have hi9:i < 1024:=by omega
 have HTL:=Lib.hid h2
 rw [hrl] at hs2
 have hs3:∀ W,(Instr.slice 82 (.slice A l.length c) (some (.int .i64 ((i:Int) + 1))) none none).run Try.prog W = .ok (.slice A2 (rows.drop (i + 1)).length (c - (i + 1))) W:=hs2
 clear hS hT hD hK hC hC' hnS h1 h2 hs2 hi hA2 hc hl hrl
 have JF:=Try.underlying82
 have hw1:IntKind.i64.wrap ((i:Int) + 1) = (i:Int) + 1:=IntWalk.i64_in _ (by omega)
 go_enter Try.func91,Try.ntmps91
 go_wp2_with fail
 refine BA (n:=11) (S:=fun w' => Below w.heap.size w w') (ds:=[]) gz (by kernel_rfl) rfl rfl (AZ (Below.refl _ _)) (fun hHeld => ?_)
 generalize w.drew = w1 at hHeld ⊢
 refine pu 1 6 M4a ?_
 refine pu 2 7 M4b ?_
 refine pu 3 8 M4c ?_
 refine pu 5 10 M4d ?_
 refine pu 6 11 M4e ?_
 refine pu 7 12 M4f ?_
 refine pu 8 13 M4g ?_
 refine on 0 (some 5) M4h fun K hK => ?_
 have HB1:=Lib.hid hHeld
 clear hHeld
 refine Kd.Ju (Dc 12) (w0:=w1) (W:=w1) w1.heap.size 163 (by rfl) (N:=5) rfl (xs:=[]) (inner:=[]) (ok:=fun _ => True) (CY:=fun _ => False) (by first | (go_simp; done) | (go_simp; rfl)) (CV.none _ _) (fun _ hk => False.elim hk) trivial (Below.refl _ _) (Nat.le_refl _) (by decide) ?_
 intro v2 w2 hR hB _ _
 have HR2:=Lib.hid hR
 have HB2:=Lib.hid hB
 clear hR hB
 have hsz1:=HB1.out.size
 have Ub:=Lib.hid hsz1
 clear hsz1
 refine hK.out _ _ (HB1.out.trans (HB2.out.mono Ub.out)) (fun hHeld => ?_)
 clear hK K hHeld
 refine nm 5 ?_
 refine on 4 (some 9) iD fun K hK => ?_
 refine Kd.BO (Dc 12) (Rr:=fun x cs => cs = x ∧ x.length = 12 ∧ ∀ u ∈ x,u.oneCell' = true) (w0:=w1) (W:=w2) w1.heap.size (by rfl) (.tmp 5) (.tmp 8) 82 163 (.agg #[.int .i64 0,.int .u32 0,.int .i64 0,.int .u32 0,.int .u32 0,.int .u32 0,.int .u32 0,.int .u32 0,.int .u32 0,.int .u32 0,.complex .f64 0 0,.slice none 0 0]) 96 rfl Try.underlying82 (by kernel_rfl) rfl (by decide) (by decide) v2 [] (rows.take i) A _ c (fun _ => True) (fun _ => False) rfl (by first | rfl | (rw [← HTL.out]; rfl) | (rw [List.length_drop]; rfl)) HR2.out (Kd.Cm HT.out (HB1.out.trans (HB2.out.mono Ub.out))) (fun _ _ hx => hx) (fun _ hf => hf.elim) (fun _ _ => trivial) HB2.out HB2.out.size (by have:=HL.out; have:=bD.out; simp only [List.length_nil,List.length_append,List.length_take,List.length_drop]; omega) ?_
 intro v4 w4 hR hB _ _
 have HR4:=Lib.hid hR
 have HB4:=Lib.hid hB
 clear hR hB
 refine hK.out _ _ (HB1.out.trans (HB4.out.mono Ub.out)) (fun hHeld => ?_)
 clear hK K hHeld
 refine nm 9 ?_
 refine on 9 (some 14) iF fun K hK => ?_
 refine Kd.BO (Dc 12) (Rr:=fun x cs => cs = x ∧ x.length = 12 ∧ ∀ u ∈ x,u.oneCell' = true) (w0:=w1) (W:=w4) w1.heap.size (by rfl) (.tmp 9) (.tmp 13) 82 163 (.agg #[.int .i64 0,.int .u32 0,.int .i64 0,.int .u32 0,.int .u32 0,.int .u32 0,.int .u32 0,.int .u32 0,.int .u32 0,.int .u32 0,.complex .f64 0 0,.slice none 0 0]) 96 rfl Try.underlying82 (by kernel_rfl) rfl (by decide) (by decide) v4 ([] ++ rows.take i) (rows.drop (i + 1)) A2 _ (c - (i + 1)) (fun _ => True) (fun _ => False) rfl (by first | rfl | (rw [← HTL.out]; rfl) | (rw [List.length_drop]; rfl)) HR4.out (Kd.Cm HD.out (HB1.out.trans (HB4.out.mono Ub.out))) (fun _ _ hx => hx) (fun _ hf => hf.elim) (fun _ _ => trivial) HB4.out HB4.out.size (by have:=HL.out; have:=bD.out; simp only [List.length_nil,List.length_append,List.length_take,List.length_drop]; omega) ?_
 intro v9 w9 hR hB _ _
 have HR9:=Lib.hid hR
 have HB9:=Lib.hid hB
 clear hR hB
 refine hK.out _ _ (HB1.out.trans (HB9.out.mono Ub.out)) (fun hHeld => ?_)
 clear hK K hHeld
 refine nm 14 ?_
 have hHeld:Below w.heap.size w w9:=HB1.out.trans (HB9.out.mono Ub.out)
 refine pu 10 4 iG ?_
 refine BG (by kernel_rfl) ?_
 go_wp2
 obtain ⟨A7,c7,hv7⟩:=Kd.Am HR9.out
 subst hv7
 obtain ⟨Ua,dA,Fa,hS7⟩:=QL (S:=S) (fun k hk => Nat.lt_of_lt_of_le (HS.out k hk) Ub.out) HR9.out
 rw [dA] at Ua
 have hrows:([] ++ rows.take i) ++ rows.drop (i + 1) = rows.eraseIdx i:=by rw [List.nil_append,List.eraseIdx_eq_take_drop_succ]
 rw [hrows] at Ua Fa
 have hlen:(rows.eraseIdx i).length = (l.eraseIdx i).length:=by rw [List.length_eraseIdx,List.length_eraseIdx,bD.out]
 go_ret
 refine ⟨⟨A7,c7,?_,⟨rows.eraseIdx i,by rw [← hlen]; exact Ua,fun _ => hS7,hlen,fun j y r hy hr => ?_⟩,by rw [← hlen]; exact Fa⟩,hHeld⟩
 ·rw [hrows,hlen]; rfl
 ·rw [List.getElem?_eraseIdx] at hy hr
  split at hy
  ·rename_i h; rw [if_pos h] at hr; exact aB.keep (HK.out j y r hy hr) (Kept.of_below hHeld _)
  ·rename_i h; rw [if_neg h] at hr; exact aB.keep (HK.out (j + 1) y r hy hr) (Kept.of_below hHeld _)
end Go.Proofs.Ytnkkgofpifhoeaa.Rf
end
