/- What the laws of a pair are proved with: links and pairs in memory, what their methods do, what a pair keeps to (part 15). -/
import Derived.Test.YtnkkgofpifhoeaaPE14
set_option linter.unusedSimpArgs false
set_option linter.unusedVariables false
set_option maxRecDepth 100000
set_option maxHeartbeats 16000000
section
namespace Go.Proofs.Ytnkkgofpifhoeaa.Rf
open Go.RowKit Go.Proofs.Ytnkkgofpifhoeaa.Base Go.Proofs.Ytnkkgofpifhoeaa.Steps Go.Proofs.Ytnkkgofpifhoeaa.Lk Go.Proofs.YtnkkgofpifhoeaaW.PrintWords Go.Proofs.YtnkkgofpifhoeaaW.PrintLast
structure GG (Y:Pr.Pr):Prop where
 o:∀ s,s < 2 → (Y.sd s).end_.out.length ≤ 1024
 y:Y.way.length ≤ 1024
 b:∀ s,s < 2 → (Y.sd s).AB = (Y.sd s).end_.own
structure Js (Y Z:Pr.Pr):Prop where
 e:∀ s,s < 2 → (Y.sd s).end_ = (Z.sd s).end_ ∧ (Y.sd s).log = (Z.sd s).log
 y:Y.way = Z.way
theorem RP.Xa {S:Nat → Prop} {w:World} {X Y:Pr.Pr} {cs:Array Value} (h:RP S w X cs) (he:Js Y X):RP S w Y cs:=h.eq he.e he.y
theorem EX {cs:Array Value} (h:cs.size = 27):(#[.int .u32 0,.int .i64 0,.int .u32 0,.int .u32 0,.int .u32 0,.bool false,.slice none 0 0,.int .i64 0,.int .u32 0,.int .u32 0,.int .i64 0,.slice none 0 0,.int .u32 0,.int .i64 0,.int .u32 0,.int .u32 0,.int .u32 0,.bool false,.slice none 0 0,.int .i64 0,.int .u32 0,.int .u32 0,.int .i64 0,.slice none 0 0,.slice none 0 0,.slice none 0 0,.slice none 0 0]:Array Value).size = cs.size:=h.symm
theorem tu {S:Nat → Prop} {w:World} (hS:∀ k,S k → k < w.heap.size) {X:Pr.Pr} {cs:Array Value} (hP:RP S w X cs) (Y:Pr.Pr) (hT:GG Y) (s:Nat) (hs:s < 2) (i:Int) (Ab:Option Addr) (nb cb:Nat) (hok:(X.sd s).end_.Ok) (hq:Js Y (X.set s (Pr.Ai (X.sd s) (DN (X.sd s).end_)))) :
  Calls Try.prog 46 #[.agg cs,.int .i64 1,.int .i64 (s:Int),.int .i64 i,.slice Ab nb cb] w fun e w' => (∃ cs',e = .returned (.tuple #[.agg cs',.int .i64 (EK (X.sd s).end_)]) ∧ RP S w' (Pr.BC (Pr.BC Y 0) 1) cs') ∧ Below w.heap.size w w':=by
 obtain ⟨nx,Aq,cq,Ao,co,hre,hcells⟩:=hP.e s hs
 have hsi:(s:Int) < 2:=by omega
 have JG:=Lib.hid hre
 have Jk:=Lib.hid hcells
 obtain ⟨L,hL⟩:∃ L,L = (X.sd s).end_:=⟨_,rfl⟩
 first | rw [← hL] at JG Jk hq hok  ⊢ | rw [← hL] at JG Jk hq hok
 clear hre hcells
 have HS:=Lib.hid hS
 have HP:=Lib.hid hP
 have HT:=Lib.hid hT
 have HQ:=Lib.hid hq
 have EJ:=Lib.hid hs
 have Jf:=Lib.hid hok
 have Ib:=Try.underlying84
 have JF:=Try.underlying82
 have Iq:=Try.underlying79
 have Df:=Try.underlying78
 have GK:=Try.underlying163
 have CP:=Try.underlying27
 have Ff:=Try.underlying156
 have Jj:=Try.underlying81
 clear hL
 clear hS hP hT hq hs hok
 have h01:s = 0 ∨ s = 1:=by have:=EJ.out; omega
 clear hsi
 rcases h01 with rfl | rfl
 all_goals (
  go_enter Try.func46,Try.ntmps46
  go_wp2_with (first | ((with_reducible refine AO (N:=56) rfl ?_); (have F2:=Fm.two w cs #[.int .u32 0,.int .i64 0,.int .u32 0,.int .u32 0,.int .u32 0,.bool false,.slice none 0 0,.int .i64 0,.int .u32 0,.int .u32 0,.int .i64 0,.slice none 0 0,.int .u32 0,.int .i64 0,.int .u32 0,.int .u32 0,.int .u32 0,.bool false,.slice none 0 0,.int .i64 0,.int .u32 0,.int .u32 0,.int .i64 0,.slice none 0 0,.slice none 0 0,.slice none 0 0,.slice none 0 0] 84 84); (obtain ⟨w0,hw0⟩:∃ w0,w0 = (w.alloc (.cells cs 84)).alloc (.cells #[.int .u32 0,.int .i64 0,.int .u32 0,.int .u32 0,.int .u32 0,.bool false,.slice none 0 0,.int .i64 0,.int .u32 0,.int .u32 0,.int .i64 0,.slice none 0 0,.int .u32 0,.int .i64 0,.int .u32 0,.int .u32 0,.int .u32 0,.bool false,.slice none 0 0,.int .i64 0,.int .u32 0,.int .u32 0,.int .i64 0,.slice none 0 0,.slice none 0 0,.slice none 0 0,.slice none 0 0] 84):=⟨_,rfl⟩); (rw [← hw0] at F2 ⊢); (clear hw0); (have F:=Lib.hid F2); (clear F2); (have E:=Lib.hid ((HP.out.up F.out.up).below F.out.bw)); (have G:=Lib.hid ((JG.out.up F.out.up).below F.out.bw)); (refine F.out.Vb 0 _ rfl 78 (.tmp 55) rfl rfl rfl rfl [.int .u32 L.own,.int .i64 L.phase,.int .u32 L.token,.int .u32 L.AB,.int .u32 L.yours,.bool L.known,.slice Aq L.queue.length cq,.int .i64 L.sent,.int .u32 nx,.int .u32 L.expected,.int .i64 L.idle,.slice Ao L.out.length co] (fun j v hv => Jk.out j v hv) Try.underlying78 rfl (by kernel_rfl) ?_)) | (go_at_call 84; (have hz:=qo (F.out.slt HS.out) Jf.out G.out); (refine Go.Calls.mono (show Calls Try.prog 84 _ _ _ from hz) ?_); (clear hz); (intro e w1 hq); (obtain ⟨⟨v,he,IW⟩,hb2⟩:=hq); (obtain ⟨Ed,A7,c7,A8,c8,hv,BM⟩:=IW); (subst hv); (subst he); (have F2:=Lib.hid (F.out.below hb2)); (have E2:=Lib.hid (E.out.below hb2)); (have G2:=Lib.hid BM); (clear BM hb2); (clear F E G); (have F:=F2); (have E:=E2); (have G:=G2); (clear F2 E2 G2)) | ((with_reducible refine gate_ (.store 78 (.tmp 61) (.tmp 58)) rfl ?_); (refine F.out.Y5 0 _ (r:=ev _ Ed (.slice A7 _ c7) (.slice A8 _ c8)) rfl rfl 78 (.tmp 61) (.tmp 58) rfl rfl rfl rfl rfl (by have:=E.out.size; show _ + 12 ≤ _; omega) (by kernel_rfl) (by kernel_rfl) ?_); (intro w6 hF hA); (have F2:=Lib.hid hF); (have E2:=Lib.hid (RP.N9 (E.out.keep (AP hA (AX 0 rfl))) EJ.out (G.out.keep (AP hA (AX 0 rfl))))); (have G2:=Lib.hid (G.out.keep (AP hA (AX 0 rfl)))); (clear hF hA); (clear F E G); (have F:=F2); (have E:=E2); (have G:=G2); (clear F2 E2 G2)) | ((with_reducible refine AO (N:=176) rfl ?_); (have E2:=Lib.hid (E.out.Xa HQ.out)); (clear E); (have E:=E2); (clear E2); (refine F.out.ld 0 rfl 84 (.tmp 5) rfl rfl rfl rfl Try.underlying84 rfl (CU E.out.size) ?_)) | (go_at_call 92; (have hz:=EO (F.out.slt HS.out) E.out HT.out.o HT.out.y HT.out.b); (refine Go.Calls.mono (show Calls Try.prog 92 _ _ _ from hz) ?_); (clear hz); (intro e wT hq); (obtain ⟨⟨ZK,he,JI⟩,hb2⟩:=hq); (subst he); (have F2:=Lib.hid (F.out.below hb2)); (have E2:=Lib.hid JI); (clear JI hb2); (clear F E); (have F:=F2); (have E:=E2); (clear F2 E2)) | ((with_reducible refine gate_ (.store 84 (.tmp 10) (.tmp 177)) rfl ?_); (refine F.out.st 1 rfl rfl 84 (.tmp 10) (.tmp 177) rfl rfl rfl rfl rfl (CU E.out.size) (EX E.out.size) E.out.one ?_); (intro w8 hF hA); (have F8:=Lib.hid hF); (have E8:=Lib.hid (E.out.keep (AP hA (AX 1 rfl)))); (have Hq:=Lib.hid E.out.size); (clear hF hA)))
  have Dt:=run_loadVar_row (P:=Try.prog) w8 _ 84 84 _ (0,0) _ (F8.out.get 1 rfl rfl) Try.underlying84 rfl (CU Hq.out)
  refine bodyPost_ret (v:=_) (Az Try.results46 _ _ rfl rfl Dt) rfl ?_
  exact ⟨⟨_,rfl,E8.out.up EH⟩,F8.out.bw⟩)
theorem uA {S:Nat → Prop} {w:World} (hS:∀ k,S k → k < w.heap.size) {X:Pr.Pr} {cs:Array Value} (hP:RP S w X cs) (Y:Pr.Pr) (hT:GG Y) (s:Nat) (hs:s < 2) (i:Int) (Ab:Option Addr) (nb cb:Nat) (hok:(X.sd s).end_.Ok) (hq:Js Y (X.set s (Pr.Ai (X.sd s) (Dz (X.sd s).end_)))) :
  Calls Try.prog 46 #[.agg cs,.int .i64 4,.int .i64 (s:Int),.int .i64 i,.slice Ab nb cb] w fun e w' => (∃ cs',e = .returned (.tuple #[.agg cs',.int .i64 0]) ∧ RP S w' (Pr.BC (Pr.BC Y 0) 1) cs') ∧ Below w.heap.size w w':=by
 obtain ⟨nx,Aq,cq,Ao,co,hre,hcells⟩:=hP.e s hs
 have hsi:(s:Int) < 2:=by omega
 have JG:=Lib.hid hre
 have Jk:=Lib.hid hcells
 obtain ⟨L,hL⟩:∃ L,L = (X.sd s).end_:=⟨_,rfl⟩
 first | rw [← hL] at JG Jk hq hok  ⊢ | rw [← hL] at JG Jk hq hok
 clear hre hcells
 have HS:=Lib.hid hS
 have HP:=Lib.hid hP
 have HT:=Lib.hid hT
 have HQ:=Lib.hid hq
 have EJ:=Lib.hid hs
 have Jf:=Lib.hid hok
 have Ib:=Try.underlying84
 have JF:=Try.underlying82
 have Iq:=Try.underlying79
 have Df:=Try.underlying78
 have GK:=Try.underlying163
 have CP:=Try.underlying27
 have Ff:=Try.underlying156
 have Jj:=Try.underlying81
 clear hL
 clear hS hP hT hq hs hok
 have h01:s = 0 ∨ s = 1:=by have:=EJ.out; omega
 clear hsi
 rcases h01 with rfl | rfl
 all_goals (
  go_enter Try.func46,Try.ntmps46
  go_wp2_with (first | ((with_reducible refine AO (N:=114) rfl ?_); (have F2:=Fm.two w cs #[.int .u32 0,.int .i64 0,.int .u32 0,.int .u32 0,.int .u32 0,.bool false,.slice none 0 0,.int .i64 0,.int .u32 0,.int .u32 0,.int .i64 0,.slice none 0 0,.int .u32 0,.int .i64 0,.int .u32 0,.int .u32 0,.int .u32 0,.bool false,.slice none 0 0,.int .i64 0,.int .u32 0,.int .u32 0,.int .i64 0,.slice none 0 0,.slice none 0 0,.slice none 0 0,.slice none 0 0] 84 84); (obtain ⟨w0,hw0⟩:∃ w0,w0 = (w.alloc (.cells cs 84)).alloc (.cells #[.int .u32 0,.int .i64 0,.int .u32 0,.int .u32 0,.int .u32 0,.bool false,.slice none 0 0,.int .i64 0,.int .u32 0,.int .u32 0,.int .i64 0,.slice none 0 0,.int .u32 0,.int .i64 0,.int .u32 0,.int .u32 0,.int .u32 0,.bool false,.slice none 0 0,.int .i64 0,.int .u32 0,.int .u32 0,.int .i64 0,.slice none 0 0,.slice none 0 0,.slice none 0 0,.slice none 0 0] 84):=⟨_,rfl⟩); (rw [← hw0] at F2 ⊢); (clear hw0); (have F:=Lib.hid F2); (clear F2); (have E:=Lib.hid ((HP.out.up F.out.up).below F.out.bw)); (have G:=Lib.hid ((JG.out.up F.out.up).below F.out.bw)); (refine F.out.Vb 0 _ rfl 78 (.tmp 113) rfl rfl rfl rfl [.int .u32 L.own,.int .i64 L.phase,.int .u32 L.token,.int .u32 L.AB,.int .u32 L.yours,.bool L.known,.slice Aq L.queue.length cq,.int .i64 L.sent,.int .u32 nx,.int .u32 L.expected,.int .i64 L.idle,.slice Ao L.out.length co] (fun j v hv => Jk.out j v hv) Try.underlying78 rfl (by kernel_rfl) ?_)) | (go_at_call 89; (have hz:=sH (F.out.slt HS.out) Jf.out G.out); (refine Go.Calls.mono (show Calls Try.prog 89 _ _ _ from hz) ?_); (clear hz); (intro e w1 hq); (obtain ⟨⟨v,he,IW⟩,hb2⟩:=hq); (obtain ⟨Ed,A7,c7,A8,c8,hv,BM⟩:=IW); (subst hv); (subst he); (have F2:=Lib.hid (F.out.below hb2)); (have E2:=Lib.hid (E.out.below hb2)); (have G2:=Lib.hid BM); (clear BM hb2); (clear F E G); (have F:=F2); (have E:=E2); (have G:=G2); (clear F2 E2 G2)) | ((with_reducible refine gate_ (.store 78 (.tmp 117) (.tmp 115)) rfl ?_); (refine F.out.Y5 0 _ (r:=ev _ Ed (.slice A7 _ c7) (.slice A8 _ c8)) rfl rfl 78 (.tmp 117) (.tmp 115) rfl rfl rfl rfl rfl (by have:=E.out.size; show _ + 12 ≤ _; omega) (by kernel_rfl) (by kernel_rfl) ?_); (intro w6 hF hA); (have F2:=Lib.hid hF); (have E2:=Lib.hid (RP.N9 (E.out.keep (AP hA (AX 0 rfl))) EJ.out (G.out.keep (AP hA (AX 0 rfl))))); (have G2:=Lib.hid (G.out.keep (AP hA (AX 0 rfl)))); (clear hF hA); (clear F E G); (have F:=F2); (have E:=E2); (have G:=G2); (clear F2 E2 G2)) | ((with_reducible refine AO (N:=176) rfl ?_); (have E2:=Lib.hid (E.out.Xa HQ.out)); (clear E); (have E:=E2); (clear E2); (refine F.out.ld 0 rfl 84 (.tmp 5) rfl rfl rfl rfl Try.underlying84 rfl (CU E.out.size) ?_)) | (go_at_call 92; (have hz:=EO (F.out.slt HS.out) E.out HT.out.o HT.out.y HT.out.b); (refine Go.Calls.mono (show Calls Try.prog 92 _ _ _ from hz) ?_); (clear hz); (intro e wT hq); (obtain ⟨⟨ZK,he,JI⟩,hb2⟩:=hq); (subst he); (have F2:=Lib.hid (F.out.below hb2)); (have E2:=Lib.hid JI); (clear JI hb2); (clear F E); (have F:=F2); (have E:=E2); (clear F2 E2)) | ((with_reducible refine gate_ (.store 84 (.tmp 10) (.tmp 177)) rfl ?_); (refine F.out.st 1 rfl rfl 84 (.tmp 10) (.tmp 177) rfl rfl rfl rfl rfl (CU E.out.size) (EX E.out.size) E.out.one ?_); (intro w8 hF hA); (have F8:=Lib.hid hF); (have E8:=Lib.hid (E.out.keep (AP hA (AX 1 rfl)))); (have Hq:=Lib.hid E.out.size); (clear hF hA)))
  have Dt:=run_loadVar_row (P:=Try.prog) w8 _ 84 84 _ (0,0) _ (F8.out.get 1 rfl rfl) Try.underlying84 rfl (CU Hq.out)
  refine bodyPost_ret (v:=_) (Az Try.results46 _ _ rfl rfl Dt) rfl ?_
  exact ⟨⟨_,rfl,E8.out.up EH⟩,F8.out.bw⟩)
theorem uB {S:Nat → Prop} {w:World} (hS:∀ k,S k → k < w.heap.size) {X:Pr.Pr} {cs:Array Value} (hP:RP S w X cs) (Y:Pr.Pr) (hT:GG Y) (s:Nat) (hs:s < 2) (i:Int) (Ab:Option Addr) (nb cb:Nat) (hok:(X.sd s).end_.Ok) (KY:(X.sd s).log.length ≤ 1000000) (hpb:decide ((X.sd s).end_.phase = 2) = false) (hq:Js Y (X.set s (Pr.Ai (X.sd s) (Aa (X.sd s).end_)))) :
  Calls Try.prog 46 #[.agg cs,.int .i64 2,.int .i64 (s:Int),.int .i64 i,.slice Ab nb cb] w fun e w' => (∃ cs',e = .returned (.tuple #[.agg cs',.int .i64 0]) ∧ RP S w' (Pr.BC (Pr.BC Y 0) 1) cs') ∧ Below w.heap.size w w':=by
 obtain ⟨nx,Aq,cq,Ao,co,hre,hcells⟩:=hP.e s hs
 have hsi:(s:Int) < 2:=by omega
 have JG:=Lib.hid hre
 have Jk:=Lib.hid hcells
 obtain ⟨L,hL⟩:∃ L,L = (X.sd s).end_:=⟨_,rfl⟩
 first | rw [← hL] at JG Jk hq hok hpb ⊢ | rw [← hL] at JG Jk hq hok hpb
 clear hre hcells
 have HS:=Lib.hid hS
 have HP:=Lib.hid hP
 have HT:=Lib.hid hT
 have HQ:=Lib.hid hq
 have EJ:=Lib.hid hs
 have Jf:=Lib.hid hok
 have Uk:=Lib.hid KY
 have HPB:=Lib.hid hpb
 have Ib:=Try.underlying84
 have JF:=Try.underlying82
 have Iq:=Try.underlying79
 have Df:=Try.underlying78
 have GK:=Try.underlying163
 have CP:=Try.underlying27
 have Ff:=Try.underlying156
 have Jj:=Try.underlying81
 clear hL
 clear hS hP hT hq hs hok KY hpb
 have h01:s = 0 ∨ s = 1:=by have:=EJ.out; omega
 clear hsi
 rcases h01 with rfl | rfl
 all_goals (
  go_enter Try.func46,Try.ntmps46
  go_wp2_with (first | ((with_reducible refine AO (N:=67) rfl ?_); (have F2:=Fm.two w cs #[.int .u32 0,.int .i64 0,.int .u32 0,.int .u32 0,.int .u32 0,.bool false,.slice none 0 0,.int .i64 0,.int .u32 0,.int .u32 0,.int .i64 0,.slice none 0 0,.int .u32 0,.int .i64 0,.int .u32 0,.int .u32 0,.int .u32 0,.bool false,.slice none 0 0,.int .i64 0,.int .u32 0,.int .u32 0,.int .i64 0,.slice none 0 0,.slice none 0 0,.slice none 0 0,.slice none 0 0] 84 84); (obtain ⟨w0,hw0⟩:∃ w0,w0 = (w.alloc (.cells cs 84)).alloc (.cells #[.int .u32 0,.int .i64 0,.int .u32 0,.int .u32 0,.int .u32 0,.bool false,.slice none 0 0,.int .i64 0,.int .u32 0,.int .u32 0,.int .i64 0,.slice none 0 0,.int .u32 0,.int .i64 0,.int .u32 0,.int .u32 0,.int .u32 0,.bool false,.slice none 0 0,.int .i64 0,.int .u32 0,.int .u32 0,.int .i64 0,.slice none 0 0,.slice none 0 0,.slice none 0 0,.slice none 0 0] 84):=⟨_,rfl⟩); (rw [← hw0] at F2 ⊢); (clear hw0); (have F:=Lib.hid F2); (clear F2); (have E:=Lib.hid ((HP.out.up F.out.up).below F.out.bw)); (have G:=Lib.hid ((JG.out.up F.out.up).below F.out.bw)); (refine F.out.Vb 0 _ rfl 78 (.tmp 66) rfl rfl rfl rfl [.int .u32 L.own,.int .i64 L.phase,.int .u32 L.token,.int .u32 L.AB,.int .u32 L.yours,.bool L.known,.slice Aq L.queue.length cq,.int .i64 L.sent,.int .u32 nx,.int .u32 L.expected,.int .i64 L.idle,.slice Ao L.out.length co] (fun j v hv => Jk.out j v hv) Try.underlying78 rfl (by kernel_rfl) ?_)) | ((with_reducible refine AO (N:=69) rfl ?_); (have F2:=Lib.hid (F.out.add rfl #[.int .u32 L.own,.int .i64 L.phase,.int .u32 L.token,.int .u32 L.AB,.int .u32 L.yours,.bool L.known,.slice Aq L.queue.length cq,.int .i64 L.sent,.int .u32 nx,.int .u32 L.expected,.int .i64 L.idle,.slice Ao L.out.length co] 78)); (have FI:Below w0.heap.size w0 (w0.alloc (.cells #[.int .u32 L.own,.int .i64 L.phase,.int .u32 L.token,.int .u32 L.AB,.int .u32 L.yours,.bool L.known,.slice Aq L.queue.length cq,.int .i64 L.sent,.int .u32 nx,.int .u32 L.expected,.int .i64 L.idle,.slice Ao L.out.length co] 78)):=UL w0 _); (have E2:=Lib.hid ((E.out.up (Fm.Dn (t:=78))).below FI)); (have G2:=Lib.hid ((G.out.up (Fm.Dn (t:=78))).below FI)); (clear FI); (obtain ⟨w1,hw1⟩:∃ ww,ww = w0.alloc (.cells #[.int .u32 L.own,.int .i64 L.phase,.int .u32 L.token,.int .u32 L.AB,.int .u32 L.yours,.bool L.known,.slice Aq L.queue.length cq,.int .i64 L.sent,.int .u32 nx,.int .u32 L.expected,.int .i64 L.idle,.slice Ao L.out.length co] 78):=⟨_,rfl⟩); (rw [← hw1] at F2 E2 G2 ⊢); (clear hw1); (clear F E G); (have F:=F2); (have E:=E2); (have G:=G2); (clear F2 E2 G2); (refine F.out.ld 2 rfl 78 (.tmp 13) rfl rfl rfl rfl Try.underlying78 rfl (by kernel_rfl) ?_)) | (go_at_call 85; (have hz:=Y1 (F.out.slt HS.out) Jf.out G.out); (refine Go.Calls.mono (show Calls Try.prog 85 _ _ _ from hz) ?_); (clear hz); (intro e w4 hq); (obtain ⟨⟨v,he,IW⟩,hb2⟩:=hq); (obtain ⟨Ed,A7,c7,A8,c8,hv,BM⟩:=IW); (have hv2:v = .agg #[.int .u32 (Aa L).own,.int .i64 (Aa L).phase,.int .u32 (Aa L).token,.int .u32 (Aa L).AB,.int .u32 (Aa L).yours,.bool (Aa L).known,.slice A7 (Aa L).queue.length c7,.int .i64 (Aa L).sent,.int .u32 Ed,.int .u32 (Aa L).expected,.int .i64 (Aa L).idle,.slice A8 (Aa L).out.length c8]:=hv); (clear hv); (subst hv2); (rw [HPB.out] at he); (subst he); (have F2:=Lib.hid (F.out.below hb2)); (have E2:=Lib.hid (E.out.below hb2)); (have G2:=Lib.hid BM); (clear BM hb2); (clear F E G); (have F:=F2); (have E:=E2); (have G:=G2); (clear F2 E2 G2)) | ((with_reducible refine gate_ (.store 78 (.tmp 76) (.tmp 74)) rfl ?_); (have F2:=Lib.hid (F.out.add rfl #[.int .u32 (Aa L).own,.int .i64 (Aa L).phase,.int .u32 (Aa L).token,.int .u32 (Aa L).AB,.int .u32 (Aa L).yours,.bool (Aa L).known,.slice A7 (Aa L).queue.length c7,.int .i64 (Aa L).sent,.int .u32 Ed,.int .u32 (Aa L).expected,.int .i64 (Aa L).idle,.slice A8 (Aa L).out.length c8] 78)); (have FI:Below w4.heap.size w4 (w4.alloc (.cells #[.int .u32 (Aa L).own,.int .i64 (Aa L).phase,.int .u32 (Aa L).token,.int .u32 (Aa L).AB,.int .u32 (Aa L).yours,.bool (Aa L).known,.slice A7 (Aa L).queue.length c7,.int .i64 (Aa L).sent,.int .u32 Ed,.int .u32 (Aa L).expected,.int .i64 (Aa L).idle,.slice A8 (Aa L).out.length c8] 78)):=UL w4 _); (have E2:=Lib.hid ((E.out.up (Fm.Dn (t:=78))).below FI)); (have G2:=Lib.hid ((G.out.up (Fm.Dn (t:=78))).below FI)); (clear FI); (obtain ⟨w5,hw5⟩:∃ ww,ww = w4.alloc (.cells #[.int .u32 (Aa L).own,.int .i64 (Aa L).phase,.int .u32 (Aa L).token,.int .u32 (Aa L).AB,.int .u32 (Aa L).yours,.bool (Aa L).known,.slice A7 (Aa L).queue.length c7,.int .i64 (Aa L).sent,.int .u32 Ed,.int .u32 (Aa L).expected,.int .i64 (Aa L).idle,.slice A8 (Aa L).out.length c8] 78):=⟨_,rfl⟩); (rw [← hw5] at F2 E2 G2 ⊢); (clear hw5); (clear F E G); (have F:=F2); (have E:=E2); (have G:=G2); (clear F2 E2 G2); (refine F.out.Y5 0 _ (r:=#[.int .u32 (Aa L).own,.int .i64 (Aa L).phase,.int .u32 (Aa L).token,.int .u32 (Aa L).AB,.int .u32 (Aa L).yours,.bool (Aa L).known,.slice A7 (Aa L).queue.length c7,.int .i64 (Aa L).sent,.int .u32 Ed,.int .u32 (Aa L).expected,.int .i64 (Aa L).idle,.slice A8 (Aa L).out.length c8]) rfl rfl 78 (.tmp 76) (.tmp 74) rfl rfl rfl rfl rfl (by have:=E.out.size; show _ + 12 ≤ _; omega) (by kernel_rfl) (by kernel_rfl) ?_); (intro w6 hF hA); (have F2:=Lib.hid hF); (have E2:=Lib.hid (RP.N9 (E.out.keep (AP hA (AX 0 rfl))) EJ.out (G.out.keep (AP hA (AX 0 rfl))))); (have G2:=Lib.hid (G.out.keep (AP hA (AX 0 rfl)))); (clear hF hA); (clear F E G); (have F:=F2); (have E:=E2); (have G:=G2); (clear F2 E2 G2)) | ((with_reducible refine AO (N:=176) rfl ?_); (have E2:=Lib.hid (E.out.Xa HQ.out)); (clear E); (have E:=E2); (clear E2); (refine F.out.ld 0 rfl 84 (.tmp 5) rfl rfl rfl rfl Try.underlying84 rfl (CU E.out.size) ?_)) | (go_at_call 92; (have hz:=EO (F.out.slt HS.out) E.out HT.out.o HT.out.y HT.out.b); (refine Go.Calls.mono (show Calls Try.prog 92 _ _ _ from hz) ?_); (clear hz); (intro e wT hq); (obtain ⟨⟨ZK,he,JI⟩,hb2⟩:=hq); (subst he); (have F2:=Lib.hid (F.out.below hb2)); (have E2:=Lib.hid JI); (clear JI hb2); (clear F E); (have F:=F2); (have E:=E2); (clear F2 E2)) | ((with_reducible refine gate_ (.store 84 (.tmp 10) (.tmp 177)) rfl ?_); (refine F.out.st 1 rfl rfl 84 (.tmp 10) (.tmp 177) rfl rfl rfl rfl rfl (CU E.out.size) (EX E.out.size) E.out.one ?_); (intro w8 hF hA); (have F8:=Lib.hid hF); (have E8:=Lib.hid (E.out.keep (AP hA (AX 1 rfl)))); (have Hq:=Lib.hid E.out.size); (clear hF hA)))
  have Dt:=run_loadVar_row (P:=Try.prog) w8 _ 84 84 _ (0,0) _ (F8.out.get 1 rfl rfl) Try.underlying84 rfl (CU Hq.out)
  refine bodyPost_ret (v:=_) (Az Try.results46 _ _ rfl rfl Dt) rfl ?_
  exact ⟨⟨_,rfl,E8.out.up EH⟩,F8.out.bw⟩)
theorem lD {S:Nat → Prop} {w:World} (hS:∀ k,S k → k < w.heap.size) {X:Pr.Pr} {cs:Array Value} (hP:RP S w X cs) (Y:Pr.Pr) (hT:GG Y) (s:Nat) (hs:s < 2) (i:Int) (Ab:Option Addr) (nb cb:Nat) (hok:(X.sd s).end_.Ok) (KY:(X.sd s).log.length ≤ 1000000) (hpb:decide ((X.sd s).end_.phase = 2) = true) (hq:Js Y (OA (X.set s (Pr.Ai (X.sd s) (Aa (X.sd s).end_))) s (QM (X.sd s).end_ 2 []))) :
  Calls Try.prog 46 #[.agg cs,.int .i64 2,.int .i64 (s:Int),.int .i64 i,.slice Ab nb cb] w fun e w' => (∃ cs',e = .returned (.tuple #[.agg cs',.int .i64 0]) ∧ RP S w' (Pr.BC (Pr.BC Y 0) 1) cs') ∧ Below w.heap.size w w':=by
 obtain ⟨nx,Aq,cq,Ao,co,hre,hcells⟩:=hP.e s hs
 have hsi:(s:Int) < 2:=by omega
 have JG:=Lib.hid hre
 have Jk:=Lib.hid hcells
 obtain ⟨L,hL⟩:∃ L,L = (X.sd s).end_:=⟨_,rfl⟩
 first | rw [← hL] at JG Jk hq hok hpb ⊢ | rw [← hL] at JG Jk hq hok hpb
 clear hre hcells
 have HS:=Lib.hid hS
 have HP:=Lib.hid hP
 have HT:=Lib.hid hT
 have HQ:=Lib.hid hq
 have EJ:=Lib.hid hs
 have Jf:=Lib.hid hok
 have Uk:=Lib.hid KY
 have HPB:=Lib.hid hpb
 have Ib:=Try.underlying84
 have JF:=Try.underlying82
 have Iq:=Try.underlying79
 have Df:=Try.underlying78
 have GK:=Try.underlying163
 have CP:=Try.underlying27
 have Ff:=Try.underlying156
 have Jj:=Try.underlying81
 clear hL
 clear hS hP hT hq hs hok KY hpb
 have h01:s = 0 ∨ s = 1:=by have:=EJ.out; omega
 clear hsi
 rcases h01 with rfl | rfl
 all_goals (
  go_enter Try.func46,Try.ntmps46
  go_wp2_with (first | ((with_reducible refine AO (N:=67) rfl ?_); (have F2:=Fm.two w cs #[.int .u32 0,.int .i64 0,.int .u32 0,.int .u32 0,.int .u32 0,.bool false,.slice none 0 0,.int .i64 0,.int .u32 0,.int .u32 0,.int .i64 0,.slice none 0 0,.int .u32 0,.int .i64 0,.int .u32 0,.int .u32 0,.int .u32 0,.bool false,.slice none 0 0,.int .i64 0,.int .u32 0,.int .u32 0,.int .i64 0,.slice none 0 0,.slice none 0 0,.slice none 0 0,.slice none 0 0] 84 84); (obtain ⟨w0,hw0⟩:∃ w0,w0 = (w.alloc (.cells cs 84)).alloc (.cells #[.int .u32 0,.int .i64 0,.int .u32 0,.int .u32 0,.int .u32 0,.bool false,.slice none 0 0,.int .i64 0,.int .u32 0,.int .u32 0,.int .i64 0,.slice none 0 0,.int .u32 0,.int .i64 0,.int .u32 0,.int .u32 0,.int .u32 0,.bool false,.slice none 0 0,.int .i64 0,.int .u32 0,.int .u32 0,.int .i64 0,.slice none 0 0,.slice none 0 0,.slice none 0 0,.slice none 0 0] 84):=⟨_,rfl⟩); (rw [← hw0] at F2 ⊢); (clear hw0); (have F:=Lib.hid F2); (clear F2); (have E:=Lib.hid ((HP.out.up F.out.up).below F.out.bw)); (have G:=Lib.hid ((JG.out.up F.out.up).below F.out.bw)); (refine F.out.Vb 0 _ rfl 78 (.tmp 66) rfl rfl rfl rfl [.int .u32 L.own,.int .i64 L.phase,.int .u32 L.token,.int .u32 L.AB,.int .u32 L.yours,.bool L.known,.slice Aq L.queue.length cq,.int .i64 L.sent,.int .u32 nx,.int .u32 L.expected,.int .i64 L.idle,.slice Ao L.out.length co] (fun j v hv => Jk.out j v hv) Try.underlying78 rfl (by kernel_rfl) ?_)) | ((with_reducible refine AO (N:=69) rfl ?_); (have F2:=Lib.hid (F.out.add rfl #[.int .u32 L.own,.int .i64 L.phase,.int .u32 L.token,.int .u32 L.AB,.int .u32 L.yours,.bool L.known,.slice Aq L.queue.length cq,.int .i64 L.sent,.int .u32 nx,.int .u32 L.expected,.int .i64 L.idle,.slice Ao L.out.length co] 78)); (have FI:Below w0.heap.size w0 (w0.alloc (.cells #[.int .u32 L.own,.int .i64 L.phase,.int .u32 L.token,.int .u32 L.AB,.int .u32 L.yours,.bool L.known,.slice Aq L.queue.length cq,.int .i64 L.sent,.int .u32 nx,.int .u32 L.expected,.int .i64 L.idle,.slice Ao L.out.length co] 78)):=UL w0 _); (have E2:=Lib.hid ((E.out.up (Fm.Dn (t:=78))).below FI)); (have G2:=Lib.hid ((G.out.up (Fm.Dn (t:=78))).below FI)); (clear FI); (obtain ⟨w1,hw1⟩:∃ ww,ww = w0.alloc (.cells #[.int .u32 L.own,.int .i64 L.phase,.int .u32 L.token,.int .u32 L.AB,.int .u32 L.yours,.bool L.known,.slice Aq L.queue.length cq,.int .i64 L.sent,.int .u32 nx,.int .u32 L.expected,.int .i64 L.idle,.slice Ao L.out.length co] 78):=⟨_,rfl⟩); (rw [← hw1] at F2 E2 G2 ⊢); (clear hw1); (clear F E G); (have F:=F2); (have E:=E2); (have G:=G2); (clear F2 E2 G2); (refine F.out.ld 2 rfl 78 (.tmp 13) rfl rfl rfl rfl Try.underlying78 rfl (by kernel_rfl) ?_)) | (go_at_call 85; (have hz:=Y1 (F.out.slt HS.out) Jf.out G.out); (refine Go.Calls.mono (show Calls Try.prog 85 _ _ _ from hz) ?_); (clear hz); (intro e w4 hq); (obtain ⟨⟨v,he,IW⟩,hb2⟩:=hq); (obtain ⟨Ed,A7,c7,A8,c8,hv,BM⟩:=IW); (have hv2:v = .agg #[.int .u32 (Aa L).own,.int .i64 (Aa L).phase,.int .u32 (Aa L).token,.int .u32 (Aa L).AB,.int .u32 (Aa L).yours,.bool (Aa L).known,.slice A7 (Aa L).queue.length c7,.int .i64 (Aa L).sent,.int .u32 Ed,.int .u32 (Aa L).expected,.int .i64 (Aa L).idle,.slice A8 (Aa L).out.length c8]:=hv); (clear hv); (subst hv2); (rw [HPB.out] at he); (subst he); (have F2:=Lib.hid (F.out.below hb2)); (have E2:=Lib.hid (E.out.below hb2)); (have G2:=Lib.hid BM); (clear BM hb2); (clear F E G); (have F:=F2); (have E:=E2); (have G:=G2); (clear F2 E2 G2)) | ((with_reducible refine gate_ (.store 78 (.tmp 76) (.tmp 74)) rfl ?_); (have F2:=Lib.hid (F.out.add rfl #[.int .u32 (Aa L).own,.int .i64 (Aa L).phase,.int .u32 (Aa L).token,.int .u32 (Aa L).AB,.int .u32 (Aa L).yours,.bool (Aa L).known,.slice A7 (Aa L).queue.length c7,.int .i64 (Aa L).sent,.int .u32 Ed,.int .u32 (Aa L).expected,.int .i64 (Aa L).idle,.slice A8 (Aa L).out.length c8] 78)); (have FI:Below w4.heap.size w4 (w4.alloc (.cells #[.int .u32 (Aa L).own,.int .i64 (Aa L).phase,.int .u32 (Aa L).token,.int .u32 (Aa L).AB,.int .u32 (Aa L).yours,.bool (Aa L).known,.slice A7 (Aa L).queue.length c7,.int .i64 (Aa L).sent,.int .u32 Ed,.int .u32 (Aa L).expected,.int .i64 (Aa L).idle,.slice A8 (Aa L).out.length c8] 78)):=UL w4 _); (have E2:=Lib.hid ((E.out.up (Fm.Dn (t:=78))).below FI)); (have G2:=Lib.hid ((G.out.up (Fm.Dn (t:=78))).below FI)); (clear FI); (obtain ⟨w5,hw5⟩:∃ ww,ww = w4.alloc (.cells #[.int .u32 (Aa L).own,.int .i64 (Aa L).phase,.int .u32 (Aa L).token,.int .u32 (Aa L).AB,.int .u32 (Aa L).yours,.bool (Aa L).known,.slice A7 (Aa L).queue.length c7,.int .i64 (Aa L).sent,.int .u32 Ed,.int .u32 (Aa L).expected,.int .i64 (Aa L).idle,.slice A8 (Aa L).out.length c8] 78):=⟨_,rfl⟩); (rw [← hw5] at F2 E2 G2 ⊢); (clear hw5); (clear F E G); (have F:=F2); (have E:=E2); (have G:=G2); (clear F2 E2 G2); (refine F.out.Y5 0 _ (r:=#[.int .u32 (Aa L).own,.int .i64 (Aa L).phase,.int .u32 (Aa L).token,.int .u32 (Aa L).AB,.int .u32 (Aa L).yours,.bool (Aa L).known,.slice A7 (Aa L).queue.length c7,.int .i64 (Aa L).sent,.int .u32 Ed,.int .u32 (Aa L).expected,.int .i64 (Aa L).idle,.slice A8 (Aa L).out.length c8]) rfl rfl 78 (.tmp 76) (.tmp 74) rfl rfl rfl rfl rfl (by have:=E.out.size; show _ + 12 ≤ _; omega) (by kernel_rfl) (by kernel_rfl) ?_); (intro w6 hF hA); (have F2:=Lib.hid hF); (have E2:=Lib.hid (RP.N9 (E.out.keep (AP hA (AX 0 rfl))) EJ.out (G.out.keep (AP hA (AX 0 rfl))))); (have G2:=Lib.hid (G.out.keep (AP hA (AX 0 rfl)))); (clear hF hA); (clear F E G); (have F:=F2); (have E:=E2); (have G:=G2); (clear F2 E2 G2)))
  have E3:=Lib.hid (E.out.below (AZ (Below.refl _ _)))
  have F3:=Lib.hid (F.out.below (AZ (Below.refl _ _)))
  have Ik:=Lib.hid E.out.size
  clear F E G
  refine FX (n:=6) (ds:=[5]) F3.out yC (by kernel_rfl) rfl rfl (fun hHeld => ?_)
  generalize w6.drew = wA at E3 hHeld ⊢
  have FS:=Lib.hid hHeld
  clear F3
  refine tk 0 78 yD hHeld ?_ (hf:=by intro w' hF; refine EN 84 (.tmp 5) ?_ _ ?_ 84 _ (0,0) _ (hF.get 0 rfl rfl) Try.underlying84 rfl (CU Ik.out) <;> rfl)
  refine pu 1 79 M4p ?_
  refine tk 2 80 M49 hHeld ?_ (hf:=by intro w' hF; refine EN 78 (.tmp 13) ?_ _ ?_ 78 _ (0,0) _ (hF.get 2 rfl rfl) Try.underlying78 rfl (by kernel_rfl) <;> rfl)
  refine on 3 (some 81) yE fun K hK => ?_
  refine BH Try.func87 (by kernel_rfl) rfl #[_,_,_] (by rfl) rfl rfl (by (try simp only [List.map_toArray,List.map_cons,List.map_nil]); first | done | rfl) ?_
  refine (show Calls Try.prog 87 _ _ _ from Rq (FS.out.slt HS.out) L nx Aq cq Ao co 2 [] none 0 (Gl.nil _ _) (by decide)).mono ?_
  rintro e w' ⟨⟨XK,c10,rfl,Ky,IL⟩,hb2⟩
  refine ⟨_,rfl,?_⟩
  have F4:=Lib.hid (FS.out.below hb2)
  have E4:=Lib.hid (E3.out.below hb2)
  have QO:=Lib.hid Ky
  have QS:=Lib.hid IL
  clear Ky IL hb2 hHeld E3 FS
  refine hK.out _ _ (F4.out) (fun hHeld => ?_)
  clear hK K
  refine nm 81 ?_
  refine on 4 (some 82) yF fun K hK => ?_
  refine BH Try.func86 (by kernel_rfl) rfl #[_,_,_] (by rfl) rfl rfl (by (try simp only [List.map_toArray,List.map_cons,List.map_nil]); first | done | rfl) ?_
  refine (show Calls Try.prog 86 _ _ _ from JW (F4.out.slt HS.out) E4.out _ EJ.out (QM L 2 []) XK c10 QO.out QS.out (by rw [Pr.Pr.Ae]; exact Uk.out)).mono ?_
  rintro e w' ⟨⟨SB,rfl,SC⟩,hb2⟩
  refine ⟨_,rfl,?_⟩
  have F5:=Lib.hid (F4.out.below hb2)
  have E5:=Lib.hid SC
  clear SC hb2 hHeld F4 E4
  refine hK.out _ _ (F5.out) (fun hHeld => ?_)
  clear hK K
  refine nm 82 ?_
  refine la 5 none yI fun K hK => ?_
  refine row_step (by rfl) rfl 84 (.tmp 5) (.tmp 82) rfl _ _ rfl rfl 84 _ (F5.out.get 0 rfl rfl) (CU E5.out.size) (Ik.out.trans E5.out.size.symm) E5.out.one (fun w7 hb7 Ba => ?_)
  have F:=Lib.hid (F5.out.put 0 rfl Ba hb7)
  have E:=Lib.hid (E5.out.keep (AP Ba (AX 0 (b:=(w.heap.size,84)) rfl)))
  clear hb7 Ba F5 E5 Ik hHeld
  refine hK.out _ _ ?_
  clear hK K
  refine BG (by kernel_rfl) ?_
  go_wp2_with (first | ((with_reducible refine AO (N:=176) rfl ?_); (have E2:=Lib.hid (E.out.Xa HQ.out)); (clear E); (have E:=E2); (clear E2); (refine F.out.ld 0 rfl 84 (.tmp 5) rfl rfl rfl rfl Try.underlying84 rfl (CU E.out.size) ?_)) | (go_at_call 92; (have hz:=EO (F.out.slt HS.out) E.out HT.out.o HT.out.y HT.out.b); (refine Go.Calls.mono (show Calls Try.prog 92 _ _ _ from hz) ?_); (clear hz); (intro e wT hq); (obtain ⟨⟨ZK,he,JI⟩,hb2⟩:=hq); (subst he); (have F2:=Lib.hid (F.out.below hb2)); (have E2:=Lib.hid JI); (clear JI hb2); (clear F E); (have F:=F2); (have E:=E2); (clear F2 E2)) | ((with_reducible refine gate_ (.store 84 (.tmp 10) (.tmp 177)) rfl ?_); (refine F.out.st 1 rfl rfl 84 (.tmp 10) (.tmp 177) rfl rfl rfl rfl rfl (CU E.out.size) (EX E.out.size) E.out.one ?_); (intro w8 hF hA); (have F8:=Lib.hid hF); (have E8:=Lib.hid (E.out.keep (AP hA (AX 1 rfl)))); (have Hq:=Lib.hid E.out.size); (clear hF hA)))
  have Dt:=run_loadVar_row (P:=Try.prog) w8 _ 84 84 _ (0,0) _ (F8.out.get 1 rfl rfl) Try.underlying84 rfl (CU Hq.out)
  refine bodyPost_ret (v:=_) (Az Try.results46 _ _ rfl rfl Dt) rfl ?_
  exact ⟨⟨_,rfl,E8.out.up EH⟩,F8.out.bw⟩)
theorem lF {p:Prop} (h:p:=by
 have Dt:=run_loadVar_row (P:=Try.prog) w8 _ 84 84 _ (0,0) _ (F8.out.get 1 rfl rfl) Try.underlying84 rfl (CU Hq.out)
 refine bodyPost_ret (v:=_) (Az Try.results46 _ _ rfl rfl Dt) rfl ?_
 exact ⟨⟨_,rfl,E8.out.up EH⟩,F8.out.bw⟩):p:=h
theorem uC {S:Nat → Prop} {w:World} (hS:∀ k,S k → k < w.heap.size) {X:Pr.Pr} {cs:Array Value} (hP:RP S w X cs) (Y:Pr.Pr) (hT:GG Y) (sd:Int) (i:Nat) (hi:i < X.way.length) (hY:X.way.length ≤ 1024) (Ab:Option Addr) (nb cb:Nat) (s:Nat) (hs:s < 2) (hds:(X.way.getD i Pr.DI).dst = s) (hok:(X.sd s).end_.Ok) (KY:(X.sd s).log.length ≤ 1000000) (hb0:(X.way.getD i Pr.DI).AB ≠ 0) (Oi:(X.way.getD i Pr.DI).p.Good) (r:Lk × Tk) (hr:Bf (X.sd s).end_ (X.way.getD i Pr.DI).AB (X.way.getD i Pr.DI).p = r) (hx:(r.2.down = true ∧ r.2.up = false ∧ r.2.body = []) ∨ (r.2.down = false ∧ r.2.up = true ∧ r.2.body = []) ∨ (r.2.down = false ∧ r.2.up = false ∧ r.2.body.length ≤ 1000)) (hq:Js Y (takeD { X with way:=X.way.eraseIdx i } s (X.sd s).end_ r)) :
  Calls Try.prog 46 #[.agg cs,.int .i64 6,.int .i64 sd,.int .i64 (i:Int),.slice Ab nb cb] w fun e w' => (∃ cs',e = .returned (.tuple #[.agg cs',.int .i64 0]) ∧ RP S w' (Pr.BC (Pr.BC Y 0) 1) cs') ∧ Below w.heap.size w w':=by
 obtain ⟨Aw,cw,hcw,Fh,hLw⟩:=hP.y
 have kZ:=Lib.hid hLw
 have Ud:=Lib.hid Fh
 have hi0:¬ (i:Int) < 0:=by omega
 have hii:(i:Int) < (X.way.length:Int):=by omega
 have wX:(X.way.length:Int) ≤ 1024:=by omega
 clear hLw Fh
 have HS:=Lib.hid hS
 have HP:=Lib.hid hP
 have HT:=Lib.hid hT
 have HQ:=Lib.hid hq
 have HI:=Lib.hid hi
 have HY:=Lib.hid hY
 have EJ:=Lib.hid hs
 have HDS:=Lib.hid hds
 have Jf:=Lib.hid hok
 have Uk:=Lib.hid KY
 have HB0:=Lib.hid hb0
 have KE:=Lib.hid Oi
 have HR:=Lib.hid hr
 have HX:=Lib.hid hx
 have Ib:=Try.underlying84
 have JF:=Try.underlying82
 have Iq:=Try.underlying79
 have Df:=Try.underlying78
 have GK:=Try.underlying163
 have CP:=Try.underlying27
 have Ff:=Try.underlying156
 have Jj:=Try.underlying81
 clear hS hP hT hq hi hY hs hds hok KY hb0 Oi hr hx
 go_enter Try.func46,Try.ntmps46
 go_wp2_with (first | ((with_reducible refine AO (N:=148) rfl ?_); (have F2:=Fm.two w cs #[.int .u32 0,.int .i64 0,.int .u32 0,.int .u32 0,.int .u32 0,.bool false,.slice none 0 0,.int .i64 0,.int .u32 0,.int .u32 0,.int .i64 0,.slice none 0 0,.int .u32 0,.int .i64 0,.int .u32 0,.int .u32 0,.int .u32 0,.bool false,.slice none 0 0,.int .i64 0,.int .u32 0,.int .u32 0,.int .i64 0,.slice none 0 0,.slice none 0 0,.slice none 0 0,.slice none 0 0] 84 84); (obtain ⟨w0,hw0⟩:∃ w0,w0 = (w.alloc (.cells cs 84)).alloc (.cells #[.int .u32 0,.int .i64 0,.int .u32 0,.int .u32 0,.int .u32 0,.bool false,.slice none 0 0,.int .i64 0,.int .u32 0,.int .u32 0,.int .i64 0,.slice none 0 0,.int .u32 0,.int .i64 0,.int .u32 0,.int .u32 0,.int .u32 0,.bool false,.slice none 0 0,.int .i64 0,.int .u32 0,.int .u32 0,.int .i64 0,.slice none 0 0,.slice none 0 0,.slice none 0 0,.slice none 0 0] 84):=⟨_,rfl⟩); (rw [← hw0] at F2 ⊢); (clear hw0); (have F:=Lib.hid F2); (clear F2); (have E:=Lib.hid ((HP.out.up F.out.up).below F.out.bw)); (refine F.out.ld 0 rfl 84 (.tmp 5) rfl rfl rfl rfl Try.underlying84 rfl (CU E.out.size) ?_)) | (go_at_call 90; (have hz:=Uj (F.out.slt HS.out) E.out i HI.out HY.out s EJ.out HDS.out Jf.out Uk.out HB0.out KE.out r HR.out HX.out); (refine Go.Calls.mono (show Calls Try.prog 90 _ _ _ from hz) ?_); (clear hz); (intro e w1 hq); (obtain ⟨⟨ZK,he,JI⟩,hb2⟩:=hq); (subst he); (have F2:=Lib.hid (F.out.below hb2)); (have HOLD:=Lib.hid E.out.size); (have E2:=Lib.hid JI); (clear JI hb2); (clear F E); (have F:=F2); (have E:=E2); (clear F2 E2)) | ((with_reducible refine gate_ (.store 84 (.tmp 5) (.tmp 150)) rfl ?_); (refine F.out.st 0 rfl rfl 84 (.tmp 5) (.tmp 150) rfl rfl rfl rfl rfl (CU E.out.size) (HOLD.out.trans E.out.size.symm) E.out.one ?_); (intro w7 hF hA); (have F2:=Lib.hid hF); (have E2:=Lib.hid (E.out.keep (AP hA (AX 0 rfl)))); (clear hF hA HOLD); (clear F E); (have F:=F2); (have E:=E2); (clear F2 E2)) | ((with_reducible refine AO (N:=176) rfl ?_); (have E2:=Lib.hid (E.out.Xa HQ.out)); (clear E); (have E:=E2); (clear E2); (refine F.out.ld 0 rfl 84 (.tmp 5) rfl rfl rfl rfl Try.underlying84 rfl (CU E.out.size) ?_)) | (go_at_call 92; (have hz:=EO (F.out.slt HS.out) E.out HT.out.o HT.out.y HT.out.b); (refine Go.Calls.mono (show Calls Try.prog 92 _ _ _ from hz) ?_); (clear hz); (intro e wT hq); (obtain ⟨⟨ZK,he,JI⟩,hb2⟩:=hq); (subst he); (have F2:=Lib.hid (F.out.below hb2)); (have E2:=Lib.hid JI); (clear JI hb2); (clear F E); (have F:=F2); (have E:=E2); (clear F2 E2)) | ((with_reducible refine gate_ (.store 84 (.tmp 10) (.tmp 177)) rfl ?_); (refine F.out.st 1 rfl rfl 84 (.tmp 10) (.tmp 177) rfl rfl rfl rfl rfl (CU E.out.size) (EX E.out.size) E.out.one ?_); (intro w8 hF hA); (have F8:=Lib.hid hF); (have E8:=Lib.hid (E.out.keep (AP hA (AX 1 rfl)))); (have Hq:=Lib.hid E.out.size); (clear hF hA)))
 exact lF
theorem uD {S:Nat → Prop} {w:World} (hS:∀ k,S k → k < w.heap.size) {X:Pr.Pr} {cs:Array Value} (hP:RP S w X cs) (Y:Pr.Pr) (hT:GG Y) (sd:Int) (i:Nat) (hi:i < X.way.length) (hY:X.way.length ≤ 1024) (Ab:Option Addr) (nb cb:Nat) (hq:Js Y { X with way:=X.way.eraseIdx i }) :
  Calls Try.prog 46 #[.agg cs,.int .i64 7,.int .i64 sd,.int .i64 (i:Int),.slice Ab nb cb] w fun e w' => (∃ cs',e = .returned (.tuple #[.agg cs',.int .i64 0]) ∧ RP S w' (Pr.BC (Pr.BC Y 0) 1) cs') ∧ Below w.heap.size w w':=by
 obtain ⟨Aw,cw,hcw,Fh,hLw⟩:=hP.y
 have kZ:=Lib.hid hLw
 have Ud:=Lib.hid Fh
 have hi0:¬ (i:Int) < 0:=by omega
 have hii:(i:Int) < (X.way.length:Int):=by omega
 have wX:(X.way.length:Int) ≤ 1024:=by omega
 clear hLw Fh
 have HS:=Lib.hid hS
 have HP:=Lib.hid hP
 have HT:=Lib.hid hT
 have HQ:=Lib.hid hq
 have HI:=Lib.hid hi
 have HY:=Lib.hid hY
 have Ib:=Try.underlying84
 have JF:=Try.underlying82
 have Iq:=Try.underlying79
 have Df:=Try.underlying78
 have GK:=Try.underlying163
 have CP:=Try.underlying27
 have Ff:=Try.underlying156
 have Jj:=Try.underlying81
 clear hS hP hT hq hi hY
 go_enter Try.func46,Try.ntmps46
 go_wp2_with (first | (go_at_call 91; (have F2:=Fm.two w cs #[.int .u32 0,.int .i64 0,.int .u32 0,.int .u32 0,.int .u32 0,.bool false,.slice none 0 0,.int .i64 0,.int .u32 0,.int .u32 0,.int .i64 0,.slice none 0 0,.int .u32 0,.int .i64 0,.int .u32 0,.int .u32 0,.int .u32 0,.bool false,.slice none 0 0,.int .i64 0,.int .u32 0,.int .u32 0,.int .i64 0,.slice none 0 0,.slice none 0 0,.slice none 0 0,.slice none 0 0] 84 84); (obtain ⟨w0,hw0⟩:∃ w0,w0 = (w.alloc (.cells cs 84)).alloc (.cells #[.int .u32 0,.int .i64 0,.int .u32 0,.int .u32 0,.int .u32 0,.bool false,.slice none 0 0,.int .i64 0,.int .u32 0,.int .u32 0,.int .i64 0,.slice none 0 0,.int .u32 0,.int .i64 0,.int .u32 0,.int .u32 0,.int .u32 0,.bool false,.slice none 0 0,.int .i64 0,.int .u32 0,.int .u32 0,.int .i64 0,.slice none 0 0,.slice none 0 0,.slice none 0 0,.slice none 0 0] 84):=⟨_,rfl⟩); (rw [← hw0] at F2 ⊢); (clear hw0); (have F:=Lib.hid F2); (clear F2); (have E:=Lib.hid ((HP.out.up F.out.up).below F.out.bw)); (have hz:=JE (F.out.slt HS.out) X.way Aw cw ((kZ.out.up (by decide) F.out.up).below F.out.bw) Ud.out i HI.out HY.out); (refine Go.Calls.mono (show Calls Try.prog 91 _ _ _ from hz) ?_); (clear hz); (intro e w1 hq); (obtain ⟨⟨A5,c5,he,hL5,hc5⟩,hb2⟩:=hq); (subst he); (have Rn:=Lib.hid hL5); (have Ns:=Lib.hid hc5); (have F2:=Lib.hid (F.out.below hb2)); (have E2:=Lib.hid (E.out.below hb2)); (clear hL5 hc5 hb2); (clear F E); (have F:=F2); (have E:=E2); (clear F2 E2)) | ((with_reducible refine gate_ (.store 82 (.tmp 157) (.tmp 156)) rfl ?_); (refine F.out.st1 0 (v:=.slice A5 (X.way.eraseIdx i).length c5) rfl rfl 82 (.tmp 157) (.tmp 156) rfl rfl rfl rfl rfl rfl (by have:=E.out.size; omega) (by kernel_rfl) rfl ?_); (intro w2 hF hA); (have F2:=Lib.hid hF); (have E2:=Lib.hid (RP.UZ (E.out.keep (AP hA (AX 0 rfl))) Ns.out (Rn.out.keep (AP hA (AX 0 rfl))))); (clear hF hA Rn Ns); (clear F E); (have F:=F2); (have E:=E2); (clear F2 E2)) | ((with_reducible refine AO (N:=176) rfl ?_); (have E2:=Lib.hid (E.out.Xa HQ.out)); (clear E); (have E:=E2); (clear E2); (refine F.out.ld 0 rfl 84 (.tmp 5) rfl rfl rfl rfl Try.underlying84 rfl (CU E.out.size) ?_)) | (go_at_call 92; (have hz:=EO (F.out.slt HS.out) E.out HT.out.o HT.out.y HT.out.b); (refine Go.Calls.mono (show Calls Try.prog 92 _ _ _ from hz) ?_); (clear hz); (intro e wT hq); (obtain ⟨⟨ZK,he,JI⟩,hb2⟩:=hq); (subst he); (have F2:=Lib.hid (F.out.below hb2)); (have E2:=Lib.hid JI); (clear JI hb2); (clear F E); (have F:=F2); (have E:=E2); (clear F2 E2)) | ((with_reducible refine gate_ (.store 84 (.tmp 10) (.tmp 177)) rfl ?_); (refine F.out.st 1 rfl rfl 84 (.tmp 10) (.tmp 177) rfl rfl rfl rfl rfl (CU E.out.size) (EX E.out.size) E.out.one ?_); (intro w8 hF hA); (have F8:=Lib.hid hF); (have E8:=Lib.hid (E.out.keep (AP hA (AX 1 rfl)))); (have Hq:=Lib.hid E.out.size); (clear hF hA)))
 exact lF
theorem RP.AAE {S:Nat → Prop} {w:World} {X:Pr.Pr} {cs:Array Value} (h:RP S w X cs) {A:Option Addr} {n c:Nat} {l:List Pr.Fl} (hn:n = l.length) (hl:n ≤ c) (hL:aB.L S w A l.length l):RP S w { X with way:=l } (cs.setIfInBounds 26 (.slice A n c)):=by
 subst hn
 exact h.UZ hl hL
theorem lG {S:Nat → Prop} {w:World} (hS:∀ k,S k → k < w.heap.size) {X:Pr.Pr} {cs:Array Value} (hP:RP S w X cs) (Y:Pr.Pr) (hT:GG Y) (sd:Int) (i:Nat) (hi:i < X.way.length) (hY:X.way.length ≤ 1024) (hF:¬ X.way.length < 1024) (Ab:Option Addr) (nb cb:Nat) (hq:Js Y X) :
  Calls Try.prog 46 #[.agg cs,.int .i64 8,.int .i64 sd,.int .i64 (i:Int),.slice Ab nb cb] w fun e w' => (∃ cs',e = .returned (.tuple #[.agg cs',.int .i64 0]) ∧ RP S w' (Pr.BC (Pr.BC Y 0) 1) cs') ∧ Below w.heap.size w w':=by
 obtain ⟨Aw,cw,hcw,Fh,hLw⟩:=hP.y
 have Ud:=Lib.hid Fh
 have hi0:¬ (i:Int) < 0:=by omega
 have hii:(i:Int) < (X.way.length:Int):=by omega
 have wX:(X.way.length:Int) ≤ 1024:=by omega
 clear Fh
 have hd8:decide ((X.way.length:Int) < 1024) = false:=by simp; omega
 have hd9:¬ (X.way.length:Int) < 1024:=by omega
 clear hLw
 have HS:=Lib.hid hS
 have HP:=Lib.hid hP
 have HT:=Lib.hid hT
 have HQ:=Lib.hid hq
 have HI:=Lib.hid hi
 have HY:=Lib.hid hY
 have HFU:=Lib.hid hF
 have Ib:=Try.underlying84
 have JF:=Try.underlying82
 have Iq:=Try.underlying79
 have Df:=Try.underlying78
 have GK:=Try.underlying163
 have CP:=Try.underlying27
 have Ff:=Try.underlying156
 have Jj:=Try.underlying81
 clear hS hP hT hq hi hY hF
 go_enter Try.func46,Try.ntmps46
 go_wp2_with (first | ((with_reducible refine AO (N:=176) rfl ?_); (have F2:=Fm.two w cs #[.int .u32 0,.int .i64 0,.int .u32 0,.int .u32 0,.int .u32 0,.bool false,.slice none 0 0,.int .i64 0,.int .u32 0,.int .u32 0,.int .i64 0,.slice none 0 0,.int .u32 0,.int .i64 0,.int .u32 0,.int .u32 0,.int .u32 0,.bool false,.slice none 0 0,.int .i64 0,.int .u32 0,.int .u32 0,.int .i64 0,.slice none 0 0,.slice none 0 0,.slice none 0 0,.slice none 0 0] 84 84); (obtain ⟨w0,hw0⟩:∃ w0,w0 = (w.alloc (.cells cs 84)).alloc (.cells #[.int .u32 0,.int .i64 0,.int .u32 0,.int .u32 0,.int .u32 0,.bool false,.slice none 0 0,.int .i64 0,.int .u32 0,.int .u32 0,.int .i64 0,.slice none 0 0,.int .u32 0,.int .i64 0,.int .u32 0,.int .u32 0,.int .u32 0,.bool false,.slice none 0 0,.int .i64 0,.int .u32 0,.int .u32 0,.int .i64 0,.slice none 0 0,.slice none 0 0,.slice none 0 0,.slice none 0 0] 84):=⟨_,rfl⟩); (rw [← hw0] at F2 ⊢); (clear hw0); (have F:=Lib.hid F2); (clear F2); (have E:=Lib.hid ((HP.out.up F.out.up).below F.out.bw)); (have E2:=Lib.hid (E.out.Xa HQ.out)); (clear E); (have E:=E2); (clear E2); (refine F.out.ld 0 rfl 84 (.tmp 5) rfl rfl rfl rfl Try.underlying84 rfl (CU E.out.size) ?_)) | (go_at_call 92; (have hz:=EO (F.out.slt HS.out) E.out HT.out.o HT.out.y HT.out.b); (refine Go.Calls.mono (show Calls Try.prog 92 _ _ _ from hz) ?_); (clear hz); (intro e wT hq); (obtain ⟨⟨ZK,he,JI⟩,hb2⟩:=hq); (subst he); (have F2:=Lib.hid (F.out.below hb2)); (have E2:=Lib.hid JI); (clear JI hb2); (clear F E); (have F:=F2); (have E:=E2); (clear F2 E2)) | ((with_reducible refine gate_ (.store 84 (.tmp 10) (.tmp 177)) rfl ?_); (refine F.out.st 1 rfl rfl 84 (.tmp 10) (.tmp 177) rfl rfl rfl rfl rfl (CU E.out.size) (EX E.out.size) E.out.one ?_); (intro w8 hF hA); (have F8:=Lib.hid hF); (have E8:=Lib.hid (E.out.keep (AP hA (AX 1 rfl)))); (have Hq:=Lib.hid E.out.size); (clear hF hA)))
 exact lF
theorem uF {S:Nat → Prop} {w:World} (hS:∀ k,S k → k < w.heap.size) {X:Pr.Pr} {cs:Array Value} (hP:RP S w X cs) (Y:Pr.Pr) (hT:GG Y) (sd:Int) (i:Nat) (hi:i < X.way.length) (hY:X.way.length ≤ 1024) (hF:X.way.length < 1024) (Ab:Option Addr) (nb cb:Nat) (hq:Js Y { X with way:=X.way ++ [X.way.getD i Pr.DI] }) :
  Calls Try.prog 46 #[.agg cs,.int .i64 8,.int .i64 sd,.int .i64 (i:Int),.slice Ab nb cb] w fun e w' => (∃ cs',e = .returned (.tuple #[.agg cs',.int .i64 0]) ∧ RP S w' (Pr.BC (Pr.BC Y 0) 1) cs') ∧ Below w.heap.size w w':=by
 obtain ⟨Aw,cw,hcw,Fh,hLw⟩:=hP.y
 have Ud:=Lib.hid Fh
 have hi0:¬ (i:Int) < 0:=by omega
 have hii:(i:Int) < (X.way.length:Int):=by omega
 have wX:(X.way.length:Int) ≤ 1024:=by omega
 clear Fh
 obtain ⟨g,o,rw0,hA,-,⟨Ac,cc,hrw,hlb,J5⟩,hrg⟩:=hLw.el (by decide) i hi Pr.DI
 obtain ⟨f,hf⟩:∃ f,f = X.way.getD i Pr.DI:=⟨_,rfl⟩
 rw [← hf] at hrw hlb J5 hq
 subst hrw
 subst hA
 obtain ⟨rows,sV,kR,Y8,sW⟩:=hLw
 have hd8:decide ((X.way.length:Int) < 1024) = true:=by simp; omega
 have hd9:(X.way.length:Int) < 1024:=by omega
 have Qk:=Lib.hid hrg
 have Yc:=Lib.hid hlb
 have BB:=Lib.hid J5
 have AAF:=Lib.hid sV
 have OC:=Lib.hid Y8
 have zo:=Lib.hid sW
 have su:=Lib.hid hcw
 clear hrg hlb J5 sV kR Y8 sW hf
 have HS:=Lib.hid hS
 have HP:=Lib.hid hP
 have HT:=Lib.hid hT
 have HQ:=Lib.hid hq
 have HI:=Lib.hid hi
 have HY:=Lib.hid hY
 have HFU:=Lib.hid hF
 have Ib:=Try.underlying84
 have JF:=Try.underlying82
 have Iq:=Try.underlying79
 have Df:=Try.underlying78
 have GK:=Try.underlying163
 have CP:=Try.underlying27
 have Ff:=Try.underlying156
 have Jj:=Try.underlying81
 clear hS hP hT hq hi hY hF
 go_enter Try.func46,Try.ntmps46
 go_wp2_with fail
 have F2:=Fm.two w cs #[.int .u32 0,.int .i64 0,.int .u32 0,.int .u32 0,.int .u32 0,.bool false,.slice none 0 0,.int .i64 0,.int .u32 0,.int .u32 0,.int .i64 0,.slice none 0 0,.int .u32 0,.int .i64 0,.int .u32 0,.int .u32 0,.int .u32 0,.bool false,.slice none 0 0,.int .i64 0,.int .u32 0,.int .u32 0,.int .i64 0,.slice none 0 0,.slice none 0 0,.slice none 0 0,.slice none 0 0] 84 84
 obtain ⟨w0,hw0⟩:∃ w0,w0 = (w.alloc (.cells cs 84)).alloc (.cells #[.int .u32 0,.int .i64 0,.int .u32 0,.int .u32 0,.int .u32 0,.bool false,.slice none 0 0,.int .i64 0,.int .u32 0,.int .u32 0,.int .i64 0,.slice none 0 0,.int .u32 0,.int .i64 0,.int .u32 0,.int .u32 0,.int .u32 0,.bool false,.slice none 0 0,.int .i64 0,.int .u32 0,.int .u32 0,.int .i64 0,.slice none 0 0,.slice none 0 0,.slice none 0 0,.slice none 0 0] 84):=⟨_,rfl⟩
 rw [← hw0] at F2 ⊢
 clear hw0
 have F3:=Lib.hid (F2.below (AZ (Below.refl _ _)))
 clear F2
 refine FX (n:=13) (ds:=[12]) F3.out vW (by kernel_rfl) rfl rfl (fun hHeld => ?_)
 generalize w0.drew = w1 at hHeld ⊢
 have FS:=Lib.hid hHeld
 clear F3
 refine pu 1 165 M3N ?_
 refine tk 2 166 M3P hHeld ?_ (hf:=by intro w' s0; have Cb:=s0.CO 0 rfl rfl; have hq:=su.out; clear s0; go_simp; with_reducible rfl)
 refine pu 4 168 M3S ?_
 refine tk 5 169 M3U hHeld ?_ (hf:=by intro w' s0; have Cb:=s0.CO 0 rfl rfl; have hq:=su.out; clear s0; go_simp; with_reducible rfl)
 refine pu 6 170 M3W ?_
 refine pu 7 171 M3Y ?_
 refine tk 8 172 M40 hHeld ?_ (hf:=by intro w' hF; refine N8 163 (.tmp 171) ?_ g (o + i * 12) ?_ [.int .i64 f.dst,.int .u32 f.AB,.int .i64 f.p.kind,.int .u32 f.p.mine,.int .u32 f.p.AB,.int .u32 f.p.yours,.int .u32 f.p.seq,.int .u32 f.p.AV,.int .u32 f.p.stamp,.int .u32 f.p.echo,.complex .f64 f.p.zr f.p.zi,.slice Ac f.p.body.length cc] _ (fun j v hv => Bl hF.bw (Qk.out j v hv)) Try.underlying163 rfl (by kernel_rfl) <;> rfl)
 have F3:=Lib.hid hHeld
 refine Px (iE:=0) (iC:=3) (iY:=9) (NE:=164) (NC:=167) (NY:=173) (NS:=166) (NV:=172) (fuel:=3) M43 M44 xG M47 xH 12 82 163 (.agg #[.int .i64 0,.int .u32 0,.int .i64 0,.int .u32 0,.int .u32 0,.int .u32 0,.int .u32 0,.int .u32 0,.int .u32 0,.int .u32 0,.complex .f64 0 0,.slice none 0 0]) 96 rfl rfl rfl rfl rfl rfl (by kernel_rfl) (by decide) (by decide) (by decide) (fun _ => rfl) (fun _ => rfl) (fun _ => rfl) rfl Try.underlying82 (by kernel_rfl) rfl (by decide) (by decide) (by decide) (by simp) (fun a' W => by first | (go_simp; done) | (go_simp; rfl)) (.agg #[.int .i64 f.dst,.int .u32 f.AB,.int .i64 f.p.kind,.int .u32 f.p.mine,.int .u32 f.p.AB,.int .u32 f.p.yours,.int .u32 f.p.seq,.int .u32 f.p.AV,.int .u32 f.p.stamp,.int .u32 f.p.echo,.complex .f64 f.p.zr f.p.zi,.slice Ac f.p.body.length cc]) [.int .i64 f.dst,.int .u32 f.AB,.int .i64 f.p.kind,.int .u32 f.p.mine,.int .u32 f.p.AB,.int .u32 f.p.yours,.int .u32 f.p.seq,.int .u32 f.p.AV,.int .u32 f.p.stamp,.int .u32 f.p.echo,.complex .f64 f.p.zr f.p.zi,.slice Ac f.p.body.length cc] rfl (by simp [Value.oneCell']) rfl (fun a' W hv => by (have hv2:a'.tmps[172]?.getD undef = (.agg #[.int .i64 f.dst,.int .u32 f.AB,.int .i64 f.p.kind,.int .u32 f.p.mine,.int .u32 f.p.AB,.int .u32 f.p.yours,.int .u32 f.p.seq,.int .u32 f.p.AV,.int .u32 f.p.stamp,.int .u32 f.p.echo,.complex .f64 f.p.zr f.p.zi,.slice Ac f.p.body.length cc]:Value):=(by simpa [Act.eval] using hv)); first | (go_simp; done) | (go_simp; rfl)) _ _ cw rows rfl (Kd.Cm AAF.out FS.out.bw) (by have:=OC.out; have:=HY.out; omega) (fun w' hb => F3.out.below hb) ?_
 clear hHeld
 intro vE vC AY w5 RH UJ Nb hHeld
 have aC:=Lib.hid RH
 have aF:=Lib.hid UJ
 have FN:=Lib.hid Nb
 clear RH UJ Nb
 refine Ig (a':=?_) ?_ ?_
 rotate_left
 ·simp only [Act.put,sA,sZ,sS]
  rfl
 refine on 10 (some 174) vX fun K hK => ?_
 refine Kd.BO (Dc 12) (Rr:=fun x cs => cs = x ∧ x.length = 12 ∧ ∀ u ∈ x,u.oneCell' = true) (w0:=w1) (W:=w5) w1.heap.size (by rfl) (.tmp 167) (.tmp 173) 82 163 (.agg #[.int .i64 0,.int .u32 0,.int .i64 0,.int .u32 0,.int .u32 0,.int .u32 0,.int .u32 0,.int .u32 0,.int .u32 0,.int .u32 0,.complex .f64 0 0,.slice none 0 0]) 96 rfl Try.underlying82 (by kernel_rfl) rfl (by decide) (by decide) vC rows [[.int .i64 f.dst,.int .u32 f.AB,.int .i64 f.p.kind,.int .u32 f.p.mine,.int .u32 f.p.AB,.int .u32 f.p.yours,.int .u32 f.p.seq,.int .u32 f.p.AV,.int .u32 f.p.stamp,.int .u32 f.p.echo,.complex .f64 f.p.zr f.p.zi,.slice Ac f.p.body.length cc]] AY 1 1 (fun k => w1.heap.size ≤ k) (fun _ => False) rfl rfl aC.out aF.out (fun _ _ hx => hx) (fun _ hf => hf.elim) (fun k hk => Nat.le_trans FN.out.size hk) FN.out FN.out.size (by have:=OC.out; have:=HY.out; omega) ?_
 intro v7 w6 LM MH Nc _
 have RI:=Lib.hid LM
 have IE:=Lib.hid MH
 clear LM MH Nc hHeld aC aF FN
 refine hK.out _ _ (F3.out.below IE.out) (fun hHeld => ?_)
 clear hK K F3
 refine nm 174 ?_
 refine pu 11 175 vY ?_
 refine la 12 none vZ fun K hK => ?_
 have F6:=Lib.hid hHeld
 clear hHeld
 obtain ⟨A7,c7,hv7⟩:=Kd.Am RI.out
 rw [show (rows ++ [([.int .i64 f.dst,.int .u32 f.AB,.int .i64 f.p.kind,.int .u32 f.p.mine,.int .u32 f.p.AB,.int .u32 f.p.yours,.int .u32 f.p.seq,.int .u32 f.p.AV,.int .u32 f.p.stamp,.int .u32 f.p.echo,.complex .f64 f.p.zr f.p.zi,.slice Ac f.p.body.length cc]:List Value)]).length = X.way.length + 1 from by rw [List.length_append,OC.out]; rfl] at hv7
 subst hv7
 obtain ⟨Ua,dA,Fa,hS7⟩:=QL (FS.out.slt HS.out) RI.out
 rw [show X.way.length + 1 = (rows ++ [([.int .i64 f.dst,.int .u32 f.AB,.int .i64 f.p.kind,.int .u32 f.p.mine,.int .u32 f.p.AB,.int .u32 f.p.yours,.int .u32 f.p.seq,.int .u32 f.p.AV,.int .u32 f.p.stamp,.int .u32 f.p.echo,.complex .f64 f.p.zr f.p.zi,.slice Ac f.p.body.length cc]:List Value)]).length from by rw [List.length_append,OC.out]; rfl] at Ua Fa
 have PD:=Lib.hid (FK.L.snoc (d:=aB) (x:=f) OC.out (fun i y r hy hr => aB.up FS.out.up (zo.out i y r hy hr)) (Kept.of_below F6.out.bw _) ⟨Ac,cc,rfl,Yc.out,(BB.out.up FS.out.up).below F6.out.bw⟩ Ua hS7)
 have oI:=Lib.hid (show X.way.length + 1 ≤ c7 from by have h9:=Fa; rw [List.length_append,OC.out] at h9; exact h9)
 have E6:=Lib.hid ((HP.out.up F6.out.up).below F6.out.bw)
 clear Ua dA Fa hS7 RI
 refine F6.out.N7 0 (v:=.slice A7 (X.way.length + 1) c7) (by rfl) rfl 82 (.tmp 175) (.tmp 174) rfl rfl rfl rfl rfl rfl (by have:=E6.out.size; omega) (by kernel_rfl) rfl (fun w7 hF hA => ?_)
 have F:=Lib.hid hF
 have E:=Lib.hid (RP.AAE (E6.out.keep (AP hA (AX 0 rfl))) (n:=X.way.length + 1) (by simp) oI.out (PD.out.keep (AP hA (AX 0 rfl))))
 clear hF hA F6 PD E6
 refine hK.out _ _ ?_
 clear hK K
 refine BG (by kernel_rfl) ?_
 go_wp2_with (first | ((with_reducible refine AO (N:=176) rfl ?_); (have E2:=Lib.hid (E.out.Xa HQ.out)); (clear E); (have E:=E2); (clear E2); (refine F.out.ld 0 rfl 84 (.tmp 5) rfl rfl rfl rfl Try.underlying84 rfl (CU E.out.size) ?_)) | (go_at_call 92; (have hz:=EO (F.out.slt HS.out) E.out HT.out.o HT.out.y HT.out.b); (refine Go.Calls.mono (show Calls Try.prog 92 _ _ _ from hz) ?_); (clear hz); (intro e wT hq); (obtain ⟨⟨ZK,he,JI⟩,hb2⟩:=hq); (subst he); (have F2:=Lib.hid (F.out.below hb2)); (have E2:=Lib.hid JI); (clear JI hb2); (clear F E); (have F:=F2); (have E:=E2); (clear F2 E2)) | ((with_reducible refine gate_ (.store 84 (.tmp 10) (.tmp 177)) rfl ?_); (refine F.out.st 1 rfl rfl 84 (.tmp 10) (.tmp 177) rfl rfl rfl rfl rfl (CU E.out.size) (EX E.out.size) E.out.one ?_); (intro w8 hF hA); (have F8:=Lib.hid hF); (have E8:=Lib.hid (E.out.keep (AP hA (AX 1 rfl)))); (have Hq:=Lib.hid E.out.size); (clear hF hA)))
 exact lF
theorem Vf (cs:Array Value) (o:Nat) (h:o < cs.size):∀ v r,(wr cs o (v :: r))[o]? = some v:=fun v r => Y3 (v :: r) cs o 0 v rfl (by omega)
theorem RE.DI {S:Nat → Prop} (w:World) (b:Int):RE S w (newL b) 0 none 0 none 0:=⟨FK.L.nil _ _ _ _,Nat.le_refl _,FK.L.nil _ _ _ _,fun h => absurd rfl h⟩
theorem uG {S:Nat → Prop} {w:World} (hS:∀ k,S k → k < w.heap.size) {X:Pr.Pr} {cs:Array Value} (hP:RP S w X cs) (Y:Pr.Pr) (hT:GG Y) (s:Nat) (hs:s < 2) (a:Pr.Act) (Ab:Option Addr) (cb:Nat) (hbd:Gl S w Ab a.body) (hbl:a.body.length ≤ 10000) (hok:(X.sd s).end_.Ok) (hwn:Pr.Wn (X.sd s).end_) (KY:(X.sd s).log.length ≤ 1000000) (hse:(Bq (X.sd s).end_ a.body.length == 0) = false) (hq:Js Y (X.set s (Pr.Ai (X.sd s) (Be (X.sd s).end_ a.body)))) :
  Calls Try.prog 46 #[.agg cs,.int .i64 3,.int .i64 (s:Int),.int .i64 a.i,.slice Ab a.body.length cb] w fun e w' => (∃ cs',e = .returned (.tuple #[.agg cs',.int .i64 (Bq (X.sd s).end_ a.body.length)]) ∧ RP S w' (Pr.BC (Pr.BC Y 0) 1) cs') ∧ Below w.heap.size w w':=by
 obtain ⟨nx,Aq,cq,Ao,co,hre,hcells⟩:=hP.e s hs
 have hsi:(s:Int) < 2:=by omega
 have JG:=Lib.hid hre
 have Jk:=Lib.hid hcells
 obtain ⟨L,hL⟩:∃ L,L = (X.sd s).end_:=⟨_,rfl⟩
 first | rw [← hL] at JG Jk hq hok hwn hse ⊢ | rw [← hL] at JG Jk hq hok hwn hse
 clear hre hcells
 have HS:=Lib.hid hS
 have HP:=Lib.hid hP
 have HT:=Lib.hid hT
 have HQ:=Lib.hid hq
 have EJ:=Lib.hid hs
 have Jf:=Lib.hid hok
 have uH:=Lib.hid hwn
 have Uk:=Lib.hid KY
 have BB:=Lib.hid hbd
 have FP:=Lib.hid hbl
 have Ib:=Try.underlying84
 have JF:=Try.underlying82
 have Iq:=Try.underlying79
 have Df:=Try.underlying78
 have GK:=Try.underlying163
 have CP:=Try.underlying27
 have Ff:=Try.underlying156
 have Jj:=Try.underlying81
 clear hL
 clear hS hP hT hq hs hok hwn KY hbd hbl
 have h01:s = 0 ∨ s = 1:=by have:=EJ.out; omega
 clear hsi
 rcases h01 with rfl | rfl
 all_goals (
  go_enter Try.func46,Try.ntmps46
  go_wp2_with (first | ((with_reducible refine AO (N:=90) rfl ?_); (have F2:=Fm.two w cs #[.int .u32 0,.int .i64 0,.int .u32 0,.int .u32 0,.int .u32 0,.bool false,.slice none 0 0,.int .i64 0,.int .u32 0,.int .u32 0,.int .i64 0,.slice none 0 0,.int .u32 0,.int .i64 0,.int .u32 0,.int .u32 0,.int .u32 0,.bool false,.slice none 0 0,.int .i64 0,.int .u32 0,.int .u32 0,.int .i64 0,.slice none 0 0,.slice none 0 0,.slice none 0 0,.slice none 0 0] 84 84); (obtain ⟨w0,hw0⟩:∃ w0,w0 = (w.alloc (.cells cs 84)).alloc (.cells #[.int .u32 0,.int .i64 0,.int .u32 0,.int .u32 0,.int .u32 0,.bool false,.slice none 0 0,.int .i64 0,.int .u32 0,.int .u32 0,.int .i64 0,.slice none 0 0,.int .u32 0,.int .i64 0,.int .u32 0,.int .u32 0,.int .u32 0,.bool false,.slice none 0 0,.int .i64 0,.int .u32 0,.int .u32 0,.int .i64 0,.slice none 0 0,.slice none 0 0,.slice none 0 0,.slice none 0 0] 84):=⟨_,rfl⟩); (rw [← hw0] at F2 ⊢); (clear hw0); (have F:=Lib.hid F2); (clear F2); (have E:=Lib.hid ((HP.out.up F.out.up).below F.out.bw)); (have G:=Lib.hid ((JG.out.up F.out.up).below F.out.bw)); (refine F.out.Vb 0 _ rfl 78 (.tmp 89) rfl rfl rfl rfl [.int .u32 L.own,.int .i64 L.phase,.int .u32 L.token,.int .u32 L.AB,.int .u32 L.yours,.bool L.known,.slice Aq L.queue.length cq,.int .i64 L.sent,.int .u32 nx,.int .u32 L.expected,.int .i64 L.idle,.slice Ao L.out.length co] (fun j v hv => Jk.out j v hv) Try.underlying78 rfl (by kernel_rfl) ?_)) | (go_at_call 88; (have hz:=fV (cb:=cb) (F.out.slt HS.out) Jf.out uH.out G.out a.body a.body.length rfl ((BB.out.up F.out.up).below F.out.bw)); (refine Go.Calls.mono (show Calls Try.prog 88 _ _ _ from hz) ?_); (clear hz); (intro e w1 hq); (obtain ⟨⟨v,he,IW⟩,hb2⟩:=hq); (obtain ⟨Ed,A7,c7,A8,c8,hv,BM⟩:=IW); (subst hv); (subst he); (have F2:=Lib.hid (F.out.below hb2)); (have E2:=Lib.hid (E.out.below hb2)); (have G2:=Lib.hid BM); (clear BM hb2); (clear F E G); (have F:=F2); (have E:=E2); (have G:=G2); (clear F2 E2 G2)) | ((with_reducible refine gate_ (.store 78 (.tmp 96) (.tmp 93)) rfl ?_); (refine F.out.Y5 0 _ (r:=ev _ Ed (.slice A7 _ c7) (.slice A8 _ c8)) rfl rfl 78 (.tmp 96) (.tmp 93) rfl rfl rfl rfl rfl (by have:=E.out.size; show _ + 12 ≤ _; omega) (by kernel_rfl) (by kernel_rfl) ?_); (intro w6 hF hA); (have F2:=Lib.hid hF); (have E2:=Lib.hid (RP.N9 (E.out.keep (AP hA (AX 0 rfl))) EJ.out (G.out.keep (AP hA (AX 0 rfl))))); (have G2:=Lib.hid (G.out.keep (AP hA (AX 0 rfl)))); (clear hF hA); (clear F E G); (have F:=F2); (have E:=E2); (have G:=G2); (clear F2 E2 G2)) | ((with_reducible refine AO (N:=176) rfl ?_); (have E2:=Lib.hid (E.out.Xa HQ.out)); (clear E); (have E:=E2); (clear E2); (refine F.out.ld 0 rfl 84 (.tmp 5) rfl rfl rfl rfl Try.underlying84 rfl (CU E.out.size) ?_)) | (go_at_call 92; (have hz:=EO (F.out.slt HS.out) E.out HT.out.o HT.out.y HT.out.b); (refine Go.Calls.mono (show Calls Try.prog 92 _ _ _ from hz) ?_); (clear hz); (intro e wT hq); (obtain ⟨⟨ZK,he,JI⟩,hb2⟩:=hq); (subst he); (have F2:=Lib.hid (F.out.below hb2)); (have E2:=Lib.hid JI); (clear JI hb2); (clear F E); (have F:=F2); (have E:=E2); (clear F2 E2)) | ((with_reducible refine gate_ (.store 84 (.tmp 10) (.tmp 177)) rfl ?_); (refine F.out.st 1 rfl rfl 84 (.tmp 10) (.tmp 177) rfl rfl rfl rfl rfl (CU E.out.size) (EX E.out.size) E.out.one ?_); (intro w8 hF hA); (have F8:=Lib.hid hF); (have E8:=Lib.hid (E.out.keep (AP hA (AX 1 rfl)))); (have Hq:=Lib.hid E.out.size); (clear hF hA)))
  have Dt:=run_loadVar_row (P:=Try.prog) w8 _ 84 84 _ (0,0) _ (F8.out.get 1 rfl rfl) Try.underlying84 rfl (CU Hq.out)
  refine bodyPost_ret (v:=_) (Az Try.results46 _ _ rfl rfl Dt) rfl ?_
  exact ⟨⟨_,rfl,E8.out.up EH⟩,F8.out.bw⟩)
theorem lH {S:Nat → Prop} {w:World} (hS:∀ k,S k → k < w.heap.size) {X:Pr.Pr} {cs:Array Value} (hP:RP S w X cs) (Y:Pr.Pr) (hT:GG Y) (s:Nat) (hs:s < 2) (a:Pr.Act) (Ab:Option Addr) (cb:Nat) (hbd:Gl S w Ab a.body) (hbl:a.body.length ≤ 10000) (hok:(X.sd s).end_.Ok) (hwn:Pr.Wn (X.sd s).end_) (KY:(X.sd s).log.length ≤ 1000000) (hse:(Bq (X.sd s).end_ a.body.length == 0) = true) (hq:Js Y (OA (X.set s (Pr.Ai (X.sd s) (Be (X.sd s).end_ a.body))) s (QM (Be (X.sd s).end_ a.body) 3 a.body))) :
  Calls Try.prog 46 #[.agg cs,.int .i64 3,.int .i64 (s:Int),.int .i64 a.i,.slice Ab a.body.length cb] w fun e w' => (∃ cs',e = .returned (.tuple #[.agg cs',.int .i64 (Bq (X.sd s).end_ a.body.length)]) ∧ RP S w' (Pr.BC (Pr.BC Y 0) 1) cs') ∧ Below w.heap.size w w':=by
 obtain ⟨nx,Aq,cq,Ao,co,hre,hcells⟩:=hP.e s hs
 have hsi:(s:Int) < 2:=by omega
 have JG:=Lib.hid hre
 have Jk:=Lib.hid hcells
 obtain ⟨L,hL⟩:∃ L,L = (X.sd s).end_:=⟨_,rfl⟩
 first | rw [← hL] at JG Jk hq hok hwn hse ⊢ | rw [← hL] at JG Jk hq hok hwn hse
 clear hre hcells
 have HS:=Lib.hid hS
 have HP:=Lib.hid hP
 have HT:=Lib.hid hT
 have HQ:=Lib.hid hq
 have EJ:=Lib.hid hs
 have Jf:=Lib.hid hok
 have uH:=Lib.hid hwn
 have Uk:=Lib.hid KY
 have BB:=Lib.hid hbd
 have FP:=Lib.hid hbl
 have Ib:=Try.underlying84
 have JF:=Try.underlying82
 have Iq:=Try.underlying79
 have Df:=Try.underlying78
 have GK:=Try.underlying163
 have CP:=Try.underlying27
 have Ff:=Try.underlying156
 have Jj:=Try.underlying81
 clear hL
 clear hS hP hT hq hs hok hwn KY hbd hbl
 have h01:s = 0 ∨ s = 1:=by have:=EJ.out; omega
 clear hsi
 rcases h01 with rfl | rfl
 all_goals (
  go_enter Try.func46,Try.ntmps46
  go_wp2_with (first | ((with_reducible refine AO (N:=90) rfl ?_); (have F2:=Fm.two w cs #[.int .u32 0,.int .i64 0,.int .u32 0,.int .u32 0,.int .u32 0,.bool false,.slice none 0 0,.int .i64 0,.int .u32 0,.int .u32 0,.int .i64 0,.slice none 0 0,.int .u32 0,.int .i64 0,.int .u32 0,.int .u32 0,.int .u32 0,.bool false,.slice none 0 0,.int .i64 0,.int .u32 0,.int .u32 0,.int .i64 0,.slice none 0 0,.slice none 0 0,.slice none 0 0,.slice none 0 0] 84 84); (obtain ⟨w0,hw0⟩:∃ w0,w0 = (w.alloc (.cells cs 84)).alloc (.cells #[.int .u32 0,.int .i64 0,.int .u32 0,.int .u32 0,.int .u32 0,.bool false,.slice none 0 0,.int .i64 0,.int .u32 0,.int .u32 0,.int .i64 0,.slice none 0 0,.int .u32 0,.int .i64 0,.int .u32 0,.int .u32 0,.int .u32 0,.bool false,.slice none 0 0,.int .i64 0,.int .u32 0,.int .u32 0,.int .i64 0,.slice none 0 0,.slice none 0 0,.slice none 0 0,.slice none 0 0] 84):=⟨_,rfl⟩); (rw [← hw0] at F2 ⊢); (clear hw0); (have F:=Lib.hid F2); (clear F2); (have E:=Lib.hid ((HP.out.up F.out.up).below F.out.bw)); (have G:=Lib.hid ((JG.out.up F.out.up).below F.out.bw)); (refine F.out.Vb 0 _ rfl 78 (.tmp 89) rfl rfl rfl rfl [.int .u32 L.own,.int .i64 L.phase,.int .u32 L.token,.int .u32 L.AB,.int .u32 L.yours,.bool L.known,.slice Aq L.queue.length cq,.int .i64 L.sent,.int .u32 nx,.int .u32 L.expected,.int .i64 L.idle,.slice Ao L.out.length co] (fun j v hv => Jk.out j v hv) Try.underlying78 rfl (by kernel_rfl) ?_)) | (go_at_call 88; (have hz:=fV (cb:=cb) (F.out.slt HS.out) Jf.out uH.out G.out a.body a.body.length rfl ((BB.out.up F.out.up).below F.out.bw)); (refine Go.Calls.mono (show Calls Try.prog 88 _ _ _ from hz) ?_); (clear hz); (intro e w1 hq); (obtain ⟨⟨v,he,IW⟩,hb2⟩:=hq); (obtain ⟨Ed,A7,c7,A8,c8,hv,BM⟩:=IW); (subst hv); (subst he); (have F2:=Lib.hid (F.out.below hb2)); (have E2:=Lib.hid (E.out.below hb2)); (have G2:=Lib.hid BM); (clear BM hb2); (clear F E G); (have F:=F2); (have E:=E2); (have G:=G2); (clear F2 E2 G2)) | ((with_reducible refine gate_ (.store 78 (.tmp 96) (.tmp 93)) rfl ?_); (refine F.out.Y5 0 _ (r:=ev _ Ed (.slice A7 _ c7) (.slice A8 _ c8)) rfl rfl 78 (.tmp 96) (.tmp 93) rfl rfl rfl rfl rfl (by have:=E.out.size; show _ + 12 ≤ _; omega) (by kernel_rfl) (by kernel_rfl) ?_); (intro w6 hF hA); (have F2:=Lib.hid hF); (have E2:=Lib.hid (RP.N9 (E.out.keep (AP hA (AX 0 rfl))) EJ.out (G.out.keep (AP hA (AX 0 rfl))))); (have G2:=Lib.hid (G.out.keep (AP hA (AX 0 rfl)))); (clear hF hA); (clear F E G); (have F:=F2); (have E:=E2); (have G:=G2); (clear F2 E2 G2)))
  have B:=Lib.hid ((BB.out.up F.out.up).below F.out.bw)
  obtain ⟨nx3,A3,c3,A4,c4,-,QT⟩:=E.out.e _ EJ.out
  rw [Pr.Pr.Ae] at QT
  have HCN:=Lib.hid QT
  clear QT
  have E3:=Lib.hid (E.out.below (AZ (Below.refl _ _)))
  have B3:=Lib.hid (B.out.below (AZ (Below.refl _ _)))
  have F3:=Lib.hid (F.out.below (AZ (Below.refl _ _)))
  have Ik:=Lib.hid E.out.size
  clear F E B G
  refine FX (n:=10) (ds:=[9]) F3.out pJ (by kernel_rfl) rfl rfl (fun hHeld => ?_)
  generalize w6.drew = wA at E3 B3 hHeld ⊢
  have FS:=Lib.hid hHeld
  clear F3
  refine tk 0 99 pK hHeld ?_ (hf:=by intro w' hF; refine EN 84 (.tmp 5) ?_ _ ?_ 84 _ (0,0) _ (hF.get 0 rfl rfl) Try.underlying84 rfl (CU Ik.out) <;> rfl)
  refine pu 1 100 pM ?_
  refine pu 2 101 pO ?_
  refine pu 3 102 pR ?_
  refine pu 4 103 pU ?_
  refine tk 5 104 pV hHeld ?_ (hf:=by intro w' hF; refine N8 78 (.tmp 103) ?_ _ _ ?_ [.int .u32 (Be L a.body).own,.int .i64 (Be L a.body).phase,.int .u32 (Be L a.body).token,.int .u32 (Be L a.body).AB,.int .u32 (Be L a.body).yours,.bool (Be L a.body).known,.slice A3 (Be L a.body).queue.length c3,.int .i64 (Be L a.body).sent,.int .u32 nx3,.int .u32 (Be L a.body).expected,.int .i64 (Be L a.body).idle,.slice A4 (Be L a.body).out.length c4] _ (PG (hF.get 0 rfl rfl) HCN.out) Try.underlying78 rfl (by kernel_rfl) <;> rfl)
  refine pu 6 105 pW ?_
  refine on 7 (some 106) pX fun K hK => ?_
  refine BH Try.func87 (by kernel_rfl) rfl #[_,_,_] (by rfl) rfl rfl (by (try simp only [List.map_toArray,List.map_cons,List.map_nil]); first | done | rfl) ?_
  refine (show Calls Try.prog 87 _ _ _ from Rq (FS.out.slt HS.out) (Be L a.body) nx3 A3 c3 A4 c4 3 a.body Ab cb B3.out FP.out).mono ?_
  rintro e w' ⟨⟨XK,c10,rfl,Ky,IL⟩,hb2⟩
  refine ⟨_,rfl,?_⟩
  have F4:=Lib.hid (FS.out.below hb2)
  have E4:=Lib.hid (E3.out.below hb2)
  have QO:=Lib.hid Ky
  have QS:=Lib.hid IL
  clear Ky IL hb2 hHeld E3 FS
  refine hK.out _ _ (F4.out) (fun hHeld => ?_)
  clear hK K
  refine nm 106 ?_
  refine on 8 (some 107) pY fun K hK => ?_
  refine BH Try.func86 (by kernel_rfl) rfl #[_,_,_] (by rfl) rfl rfl (by (try simp only [List.map_toArray,List.map_cons,List.map_nil]); first | done | rfl) ?_
  refine (show Calls Try.prog 86 _ _ _ from JW (F4.out.slt HS.out) E4.out _ EJ.out (QM (Be L a.body) 3 a.body) XK c10 QO.out QS.out (by rw [Pr.Pr.Ae]; exact Uk.out)).mono ?_
  rintro e w' ⟨⟨SB,rfl,SC⟩,hb2⟩
  refine ⟨_,rfl,?_⟩
  have F5:=Lib.hid (F4.out.below hb2)
  have E5:=Lib.hid SC
  clear SC hb2 hHeld F4 E4
  refine hK.out _ _ (F5.out) (fun hHeld => ?_)
  clear hK K
  refine nm 107 ?_
  refine la 9 none ve fun K hK => ?_
  refine row_step (by rfl) rfl 84 (.tmp 5) (.tmp 107) rfl _ _ rfl rfl 84 _ (F5.out.get 0 rfl rfl) (CU E5.out.size) (Ik.out.trans E5.out.size.symm) E5.out.one (fun w7 hb7 Ba => ?_)
  have F:=Lib.hid (F5.out.put 0 rfl Ba hb7)
  have E:=Lib.hid (E5.out.keep (AP Ba (AX 0 (b:=(w.heap.size,84)) rfl)))
  clear hb7 Ba F5 E5 Ik hHeld
  refine hK.out _ _ ?_
  clear hK K
  refine BG (by kernel_rfl) ?_
  go_wp2_with (first | ((with_reducible refine AO (N:=176) rfl ?_); (have E2:=Lib.hid (E.out.Xa HQ.out)); (clear E); (have E:=E2); (clear E2); (refine F.out.ld 0 rfl 84 (.tmp 5) rfl rfl rfl rfl Try.underlying84 rfl (CU E.out.size) ?_)) | (go_at_call 92; (have hz:=EO (F.out.slt HS.out) E.out HT.out.o HT.out.y HT.out.b); (refine Go.Calls.mono (show Calls Try.prog 92 _ _ _ from hz) ?_); (clear hz); (intro e wT hq); (obtain ⟨⟨ZK,he,JI⟩,hb2⟩:=hq); (subst he); (have F2:=Lib.hid (F.out.below hb2)); (have E2:=Lib.hid JI); (clear JI hb2); (clear F E); (have F:=F2); (have E:=E2); (clear F2 E2)) | ((with_reducible refine gate_ (.store 84 (.tmp 10) (.tmp 177)) rfl ?_); (refine F.out.st 1 rfl rfl 84 (.tmp 10) (.tmp 177) rfl rfl rfl rfl rfl (CU E.out.size) (EX E.out.size) E.out.one ?_); (intro w8 hF hA); (have F8:=Lib.hid hF); (have E8:=Lib.hid (E.out.keep (AP hA (AX 1 rfl)))); (have Hq:=Lib.hid E.out.size); (clear hF hA)))
  have Dt:=run_loadVar_row (P:=Try.prog) w8 _ 84 84 _ (0,0) _ (F8.out.get 1 rfl rfl) Try.underlying84 rfl (CU Hq.out)
  refine bodyPost_ret (v:=_) (Az Try.results46 _ _ rfl rfl Dt) rfl ?_
  exact ⟨⟨_,rfl,E8.out.up EH⟩,F8.out.bw⟩)
theorem uI {S:Nat → Prop} {w:World} (hS:∀ k,S k → k < w.heap.size) {X:Pr.Pr} {cs:Array Value} (hP:RP S w X cs) (Y:Pr.Pr) (hT:GG Y) (s:Nat) (hs:s < 2) (i:Int) (Ab:Option Addr) (nb cb:Nat) (hok:(X.sd s).end_.Ok) (KY:(X.sd s).log.length ≤ 1000000) (hmx:((X.sd s).end_.own == 4294967295) = false) (hob:0 ≤ (X.sd s).end_.own ∧ (X.sd s).end_.own < 4294967295) (hq:Js Y (OA (X.set s (Pr.Ai (X.sd s) (newL ((X.sd s).end_.own + 1)))) s ⟨5,(X.sd s).end_.own + 1,0,0,0,[]⟩)) :
  Calls Try.prog 46 #[.agg cs,.int .i64 5,.int .i64 (s:Int),.int .i64 i,.slice Ab nb cb] w fun e w' => (∃ cs',e = .returned (.tuple #[.agg cs',.int .i64 0]) ∧ RP S w' (Pr.BC (Pr.BC Y 0) 1) cs') ∧ Below w.heap.size w w':=by
 obtain ⟨nx,Aq,cq,Ao,co,hre,hcells⟩:=hP.e s hs
 have hsi:(s:Int) < 2:=by omega
 have JG:=Lib.hid hre
 have Jk:=Lib.hid hcells
 obtain ⟨L,hL⟩:∃ L,L = (X.sd s).end_:=⟨_,rfl⟩
 first | rw [← hL] at JG Jk hq hok hmx hob ⊢ | rw [← hL] at JG Jk hq hok hmx hob
 clear hre hcells
 have HS:=Lib.hid hS
 have HP:=Lib.hid hP
 have HT:=Lib.hid hT
 have HQ:=Lib.hid hq
 have EJ:=Lib.hid hs
 have Jf:=Lib.hid hok
 have Uk:=Lib.hid KY
 have Ib:=Try.underlying84
 have JF:=Try.underlying82
 have Iq:=Try.underlying79
 have Df:=Try.underlying78
 have GK:=Try.underlying163
 have CP:=Try.underlying27
 have Ff:=Try.underlying156
 have Jj:=Try.underlying81
 clear hL
 clear hS hP hT hq hs hok KY
 have h01:s = 0 ∨ s = 1:=by have:=EJ.out; omega
 clear hsi
 rcases h01 with rfl | rfl
 all_goals (
  go_enter Try.func46,Try.ntmps46
  have hc0:=Jk.out 0 _ rfl
  simp only [Nat.zero_mul,Nat.add_zero,Nat.zero_add,Nat.one_mul] at hc0
  go_wp2_with (first | ((with_reducible refine gate_ (.store 78 (.tmp 136) (.tmp 134)) rfl ?_); (have F2:=Fm.two w cs #[.int .u32 0,.int .i64 0,.int .u32 0,.int .u32 0,.int .u32 0,.bool false,.slice none 0 0,.int .i64 0,.int .u32 0,.int .u32 0,.int .i64 0,.slice none 0 0,.int .u32 0,.int .i64 0,.int .u32 0,.int .u32 0,.int .u32 0,.bool false,.slice none 0 0,.int .i64 0,.int .u32 0,.int .u32 0,.int .i64 0,.slice none 0 0,.slice none 0 0,.slice none 0 0,.slice none 0 0] 84 84); (obtain ⟨w0,hw0⟩:∃ w0,w0 = (w.alloc (.cells cs 84)).alloc (.cells #[.int .u32 0,.int .i64 0,.int .u32 0,.int .u32 0,.int .u32 0,.bool false,.slice none 0 0,.int .i64 0,.int .u32 0,.int .u32 0,.int .i64 0,.slice none 0 0,.int .u32 0,.int .i64 0,.int .u32 0,.int .u32 0,.int .u32 0,.bool false,.slice none 0 0,.int .i64 0,.int .u32 0,.int .u32 0,.int .i64 0,.slice none 0 0,.slice none 0 0,.slice none 0 0,.slice none 0 0] 84):=⟨_,rfl⟩); (rw [← hw0] at F2 ⊢); (clear hw0); (have F:=Lib.hid F2); (clear F2); (have E:=Lib.hid ((HP.out.up F.out.up).below F.out.bw)); (have G:=Lib.hid (RE.DI (S:=fS S [(w.heap.size,84),(w.heap.size + 1,84)]) w0 (L.own + 1))); (refine F.out.Y5 0 _ (r:=#[.int .u32 (L.own + 1),.int .i64 0,.int .u32 0,.int .u32 0,.int .u32 0,.bool false,.slice none 0 0,.int .i64 0,.int .u32 0,.int .u32 0,.int .i64 0,.slice none 0 0]) rfl rfl 78 (.tmp 136) (.tmp 134) rfl rfl rfl rfl rfl (by have:=E.out.size; show _ + 12 ≤ _; omega) (by kernel_rfl) (by kernel_rfl) ?_); (intro w6 hF hA); (have F2:=Lib.hid hF); (have E2:=Lib.hid (RP.N9 (E.out.keep (AP hA (AX 0 rfl))) EJ.out (G.out.keep (AP hA (AX 0 rfl))))); (have G2:=Lib.hid (G.out.keep (AP hA (AX 0 rfl)))); (clear hF hA); (clear F E G); (have F:=F2); (have E:=E2); (have G:=G2); (clear F2 E2 G2)))
  clear hc0
  have HW0:=Lib.hid (Vf cs 0 (by have:=HP.out.size; omega))
  have AAG:=Lib.hid (Vf cs 12 (by have:=HP.out.size; omega))
  have E3:=Lib.hid (E.out.below (AZ (Below.refl _ _)))
  have F3:=Lib.hid (F.out.below (AZ (Below.refl _ _)))
  have Ik:=Lib.hid E.out.size
  clear F E G
  refine FX (n:=10) (ds:=[9]) F3.out pJ (by kernel_rfl) rfl rfl (fun hHeld => ?_)
  generalize w6.drew = wA at E3 hHeld ⊢
  have FS:=Lib.hid hHeld
  clear F3
  refine tk 0 137 pK hHeld ?_ (hf:=by intro w' hF; refine EN 84 (.tmp 5) ?_ _ ?_ 84 _ (0,0) _ (hF.get 0 rfl rfl) Try.underlying84 rfl (CU Ik.out) <;> rfl)
  refine pu 1 138 pM ?_
  refine pu 2 139 pO ?_
  refine pu 3 140 pR ?_
  refine pu 4 141 pU ?_
  refine pu 5 142 pV ?_
  refine tk 6 143 pW hHeld ?_ (hf:=by intro w' s0; have Cb:=s0.CO 0 rfl rfl; have hq0:=HW0.out; have hq12:=AAG.out; clear s0; go_simp; with_reducible rfl)
  refine pu 7 144 pX ?_
  have F4:=FS
  have E4:=E3
  clear FS E3
  refine on 8 (some 145) pY fun K hK => ?_
  refine BH Try.func86 (by kernel_rfl) rfl #[_,_,_] (by rfl) rfl rfl (by (try simp only [List.map_toArray,List.map_cons,List.map_nil]); first | done | rfl) ?_
  refine (show Calls Try.prog 86 _ _ _ from JW (F4.out.slt HS.out) E4.out _ EJ.out ⟨5,L.own + 1,0,0,0,[]⟩ none 0 (Gl.nil _ _) (Nat.le_refl 0) (by rw [Pr.Pr.Ae]; exact Uk.out)).mono ?_
  rintro e w' ⟨⟨SB,rfl,SC⟩,hb2⟩
  refine ⟨_,rfl,?_⟩
  have F5:=Lib.hid (F4.out.below hb2)
  have E5:=Lib.hid SC
  clear SC hb2 hHeld F4 E4
  refine hK.out _ _ (F5.out) (fun hHeld => ?_)
  clear hK K
  refine nm 145 ?_
  refine la 9 none ve fun K hK => ?_
  refine row_step (by rfl) rfl 84 (.tmp 5) (.tmp 145) rfl _ _ rfl rfl 84 _ (F5.out.get 0 rfl rfl) (CU E5.out.size) (Ik.out.trans E5.out.size.symm) E5.out.one (fun w7 hb7 Ba => ?_)
  have F:=Lib.hid (F5.out.put 0 rfl Ba hb7)
  have E:=Lib.hid (E5.out.keep (AP Ba (AX 0 (b:=(w.heap.size,84)) rfl)))
  clear hb7 Ba F5 E5 Ik hHeld
  refine hK.out _ _ ?_
  clear hK K
  refine BG (by kernel_rfl) ?_
  go_wp2_with (first | ((with_reducible refine AO (N:=176) rfl ?_); (have E2:=Lib.hid (E.out.Xa HQ.out)); (clear E); (have E:=E2); (clear E2); (refine F.out.ld 0 rfl 84 (.tmp 5) rfl rfl rfl rfl Try.underlying84 rfl (CU E.out.size) ?_)) | (go_at_call 92; (have hz:=EO (F.out.slt HS.out) E.out HT.out.o HT.out.y HT.out.b); (refine Go.Calls.mono (show Calls Try.prog 92 _ _ _ from hz) ?_); (clear hz); (intro e wT hq); (obtain ⟨⟨ZK,he,JI⟩,hb2⟩:=hq); (subst he); (have F2:=Lib.hid (F.out.below hb2)); (have E2:=Lib.hid JI); (clear JI hb2); (clear F E); (have F:=F2); (have E:=E2); (clear F2 E2)) | ((with_reducible refine gate_ (.store 84 (.tmp 10) (.tmp 177)) rfl ?_); (refine F.out.st 1 rfl rfl 84 (.tmp 10) (.tmp 177) rfl rfl rfl rfl rfl (CU E.out.size) (EX E.out.size) E.out.one ?_); (intro w8 hF hA); (have F8:=Lib.hid hF); (have E8:=Lib.hid (E.out.keep (AP hA (AX 1 rfl)))); (have Hq:=Lib.hid E.out.size); (clear hF hA)))
  have Dt:=run_loadVar_row (P:=Try.prog) w8 _ 84 84 _ (0,0) _ (F8.out.get 1 rfl rfl) Try.underlying84 rfl (CU Hq.out)
  refine bodyPost_ret (v:=_) (Az Try.results46 _ _ rfl rfl Dt) rfl ?_
  exact ⟨⟨_,rfl,E8.out.up EH⟩,F8.out.bw⟩)
theorem Z16 {p:Prop} (h:p:=by
 go_enter Try.func46,Try.ntmps46
 go_wp2_with (first | ((with_reducible refine AO (N:=22) rfl ?_); (have F2:=Fm.two w cs #[.int .u32 0,.int .i64 0,.int .u32 0,.int .u32 0,.int .u32 0,.bool false,.slice none 0 0,.int .i64 0,.int .u32 0,.int .u32 0,.int .i64 0,.slice none 0 0,.int .u32 0,.int .i64 0,.int .u32 0,.int .u32 0,.int .u32 0,.bool false,.slice none 0 0,.int .i64 0,.int .u32 0,.int .u32 0,.int .i64 0,.slice none 0 0,.slice none 0 0,.slice none 0 0,.slice none 0 0] 84 84); (obtain ⟨w0,hw0⟩:∃ w0,w0 = (w.alloc (.cells cs 84)).alloc (.cells #[.int .u32 0,.int .i64 0,.int .u32 0,.int .u32 0,.int .u32 0,.bool false,.slice none 0 0,.int .i64 0,.int .u32 0,.int .u32 0,.int .i64 0,.slice none 0 0,.int .u32 0,.int .i64 0,.int .u32 0,.int .u32 0,.int .u32 0,.bool false,.slice none 0 0,.int .i64 0,.int .u32 0,.int .u32 0,.int .i64 0,.slice none 0 0,.slice none 0 0,.slice none 0 0,.slice none 0 0] 84):=⟨_,rfl⟩); (rw [← hw0] at F2 ⊢); (clear hw0); (have F:=Lib.hid F2); (clear F2); (have E:=Lib.hid ((HP.out.up F.out.up).below F.out.bw)); (refine F.out.ld 0 rfl 84 (.tmp 5) rfl rfl rfl rfl Try.underlying84 rfl (CU E.out.size) ?_)) | ((with_reducible refine gate_ (.store 84 (.tmp 10) (.tmp 22)) rfl ?_); (refine F.out.st 1 rfl rfl 84 (.tmp 10) (.tmp 22) rfl rfl rfl rfl rfl (CU E.out.size) (EX E.out.size) E.out.one ?_); (intro w8 hF hA); (have F8:=Lib.hid hF); (have E8:=Lib.hid (E.out.keep (AP hA (AX 1 rfl)))); (have Hq:=Lib.hid E.out.size); (clear hF hA)))
 exact lF):p:=h
theorem ZL {S:Nat → Prop} {w:World} (hS:∀ k,S k → k < w.heap.size) {X:Pr.Pr} {cs:Array Value} (hP:RP S w X cs) (k s i:Int) (hk:k < 1 ∨ 8 < k) (Ab:Option Addr) (nb cb:Nat) :
  Calls Try.prog 46 #[.agg cs,.int .i64 k,.int .i64 s,.int .i64 i,.slice Ab nb cb] w fun e w' => (∃ cs',e = .returned (.tuple #[.agg cs',.int .i64 121]) ∧ RP S w' X cs') ∧ Below w.heap.size w w':=by
 have HS:=Lib.hid hS
 have HP:=Lib.hid hP
 have Ib:=Try.underlying84
 have JF:=Try.underlying82
 have Iq:=Try.underlying79
 have Df:=Try.underlying78
 have GK:=Try.underlying163
 have CP:=Try.underlying27
 have Ff:=Try.underlying156
 have Jj:=Try.underlying81
 clear hS hP
 rcases hk with hk | hk
 ·have hd1:decide (k < 1) = true:=by simp [hk]
  exact Z16
 ·have hd1:decide (k < 1) = false:=by simp; omega
  have hn1:¬ k < 1:=by omega
  have hd2:decide (k > 8) = true:=by simp; omega
  have hn2:k > 8:=by omega
  exact Z16
theorem ZM {S:Nat → Prop} {w:World} (hS:∀ k,S k → k < w.heap.size) {X:Pr.Pr} {cs:Array Value} (hP:RP S w X cs) (k s i:Int) (hk:1 ≤ k ∧ k ≤ 5) (hs:s ≠ 0 ∧ s ≠ 1) (Ab:Option Addr) (nb cb:Nat) :
  Calls Try.prog 46 #[.agg cs,.int .i64 k,.int .i64 s,.int .i64 i,.slice Ab nb cb] w fun e w' => (∃ cs',e = .returned (.tuple #[.agg cs',.int .i64 120]) ∧ RP S w' X cs') ∧ Below w.heap.size w w':=by
 have HS:=Lib.hid hS
 have HP:=Lib.hid hP
 have Ib:=Try.underlying84
 have JF:=Try.underlying82
 have Iq:=Try.underlying79
 have Df:=Try.underlying78
 have GK:=Try.underlying163
 have CP:=Try.underlying27
 have Ff:=Try.underlying156
 have Jj:=Try.underlying81
 clear hS hP
 ·obtain ⟨hk1,hk5⟩:=hk
  obtain ⟨hs0,hs1⟩:=hs
  have hd1:decide (k < 1) = false:=by simp; omega
  have hn1:¬ k < 1:=by omega
  have hd2:decide (k > 8) = false:=by simp; omega
  have hn2:¬ k > 8:=by omega
  have hd3:decide (k ≤ 5) = true:=by simp [hk5]
  have hd4:(s != 0) = true:=by simp [hs0]
  have hd5:(s != 1) = true:=by simp [hs1]
  go_enter Try.func46,Try.ntmps46
  go_wp2_with (first | ((with_reducible refine AO (N:=33) rfl ?_); (have F2:=Fm.two w cs #[.int .u32 0,.int .i64 0,.int .u32 0,.int .u32 0,.int .u32 0,.bool false,.slice none 0 0,.int .i64 0,.int .u32 0,.int .u32 0,.int .i64 0,.slice none 0 0,.int .u32 0,.int .i64 0,.int .u32 0,.int .u32 0,.int .u32 0,.bool false,.slice none 0 0,.int .i64 0,.int .u32 0,.int .u32 0,.int .i64 0,.slice none 0 0,.slice none 0 0,.slice none 0 0,.slice none 0 0] 84 84); (obtain ⟨w0,hw0⟩:∃ w0,w0 = (w.alloc (.cells cs 84)).alloc (.cells #[.int .u32 0,.int .i64 0,.int .u32 0,.int .u32 0,.int .u32 0,.bool false,.slice none 0 0,.int .i64 0,.int .u32 0,.int .u32 0,.int .i64 0,.slice none 0 0,.int .u32 0,.int .i64 0,.int .u32 0,.int .u32 0,.int .u32 0,.bool false,.slice none 0 0,.int .i64 0,.int .u32 0,.int .u32 0,.int .i64 0,.slice none 0 0,.slice none 0 0,.slice none 0 0,.slice none 0 0] 84):=⟨_,rfl⟩); (rw [← hw0] at F2 ⊢); (clear hw0); (have F:=Lib.hid F2); (clear F2); (have E:=Lib.hid ((HP.out.up F.out.up).below F.out.bw)); (refine F.out.ld 0 rfl 84 (.tmp 5) rfl rfl rfl rfl Try.underlying84 rfl (CU E.out.size) ?_)) | ((with_reducible refine gate_ (.store 84 (.tmp 10) (.tmp 33)) rfl ?_); (refine F.out.st 1 rfl rfl 84 (.tmp 10) (.tmp 33) rfl rfl rfl rfl rfl (CU E.out.size) (EX E.out.size) E.out.one ?_); (intro w8 hF hA); (have F8:=Lib.hid hF); (have E8:=Lib.hid (E.out.keep (AP hA (AX 1 rfl)))); (have Hq:=Lib.hid E.out.size); (clear hF hA)))
  exact lF
theorem Z15 {p:Prop} (h:p:=by
 clear hi
 go_enter Try.func46,Try.ntmps46
 go_wp2_with (first | ((with_reducible refine AO (N:=47) rfl ?_); (have F2:=Fm.two w cs #[.int .u32 0,.int .i64 0,.int .u32 0,.int .u32 0,.int .u32 0,.bool false,.slice none 0 0,.int .i64 0,.int .u32 0,.int .u32 0,.int .i64 0,.slice none 0 0,.int .u32 0,.int .i64 0,.int .u32 0,.int .u32 0,.int .u32 0,.bool false,.slice none 0 0,.int .i64 0,.int .u32 0,.int .u32 0,.int .i64 0,.slice none 0 0,.slice none 0 0,.slice none 0 0,.slice none 0 0] 84 84); (obtain ⟨w0,hw0⟩:∃ w0,w0 = (w.alloc (.cells cs 84)).alloc (.cells #[.int .u32 0,.int .i64 0,.int .u32 0,.int .u32 0,.int .u32 0,.bool false,.slice none 0 0,.int .i64 0,.int .u32 0,.int .u32 0,.int .i64 0,.slice none 0 0,.int .u32 0,.int .i64 0,.int .u32 0,.int .u32 0,.int .u32 0,.bool false,.slice none 0 0,.int .i64 0,.int .u32 0,.int .u32 0,.int .i64 0,.slice none 0 0,.slice none 0 0,.slice none 0 0,.slice none 0 0] 84):=⟨_,rfl⟩); (rw [← hw0] at F2 ⊢); (clear hw0); (have F:=Lib.hid F2); (clear F2); (have E:=Lib.hid ((HP.out.up F.out.up).below F.out.bw)); (refine F.out.ld 0 rfl 84 (.tmp 5) rfl rfl rfl rfl Try.underlying84 rfl (CU E.out.size) ?_)) | ((with_reducible refine gate_ (.store 84 (.tmp 10) (.tmp 47)) rfl ?_); (refine F.out.st 1 rfl rfl 84 (.tmp 10) (.tmp 47) rfl rfl rfl rfl rfl (CU E.out.size) (EX E.out.size) E.out.one ?_); (intro w8 hF hA); (have F8:=Lib.hid hF); (have E8:=Lib.hid (E.out.keep (AP hA (AX 1 rfl)))); (have Hq:=Lib.hid E.out.size); (clear hF hA)))
 exact lF):p:=h
theorem lI {S:Nat → Prop} {w:World} (hS:∀ k,S k → k < w.heap.size) {X:Pr.Pr} {cs:Array Value} (hP:RP S w X cs) (k s i:Int) (hk:6 ≤ k ∧ k ≤ 8) (hi:i < 0 ∨ (X.way.length:Int) ≤ i) (Ab:Option Addr) (nb cb:Nat) :
  Calls Try.prog 46 #[.agg cs,.int .i64 k,.int .i64 s,.int .i64 i,.slice Ab nb cb] w fun e w' => (∃ cs',e = .returned (.tuple #[.agg cs',.int .i64 122]) ∧ RP S w' X cs') ∧ Below w.heap.size w w':=by
 have HS:=Lib.hid hS
 have HP:=Lib.hid hP
 have Ib:=Try.underlying84
 have JF:=Try.underlying82
 have Iq:=Try.underlying79
 have Df:=Try.underlying78
 have GK:=Try.underlying163
 have CP:=Try.underlying27
 have Ff:=Try.underlying156
 have Jj:=Try.underlying81
 clear hS hP
 ·obtain ⟨hk6,hk8⟩:=hk
  obtain ⟨Aw,cw,hcw,Fh,hLw⟩:=HP.out.y
  clear Fh hLw
  have hd1:decide (k < 1) = false:=by simp; omega
  have hn1:¬ k < 1:=by omega
  have hd2:decide (k > 8) = false:=by simp; omega
  have hn2:¬ k > 8:=by omega
  have hd3:decide (k ≤ 5) = false:=by simp; omega
  have hn3:¬ k ≤ 5:=by omega
  have hd4:decide (k ≥ 6) = true:=by simp; omega
  have hn4:k ≥ 6:=by omega
  by_cases hi0:i < 0
  ·have hd5:decide (i < 0) = true:=by simp [hi0]
   exact Z15
  ·have hd5:decide (i < 0) = false:=by simp; omega
   have hd6:decide (i ≥ (X.way.length:Int)) = true:=by simp; omega
   have oG:i ≥ (X.way.length:Int):=by omega
   exact Z15
theorem dJ {S:Nat → Prop} {w:World} (hS:∀ k,S k → k < w.heap.size) {X:Pr.Pr} {cs:Array Value} (hP:RP S w X cs) (s:Nat) (hs:s < 2) (i:Int) (hmx:((X.sd s).end_.own == 4294967295) = true) (Ab:Option Addr) (nb cb:Nat) :
  Calls Try.prog 46 #[.agg cs,.int .i64 5,.int .i64 (s:Int),.int .i64 i,.slice Ab nb cb] w fun e w' => (∃ cs',e = .returned (.tuple #[.agg cs',.int .i64 2]) ∧ RP S w' X cs') ∧ Below w.heap.size w w':=by
 have HS:=Lib.hid hS
 have HP:=Lib.hid hP
 have Ib:=Try.underlying84
 have JF:=Try.underlying82
 have Iq:=Try.underlying79
 have Df:=Try.underlying78
 have GK:=Try.underlying163
 have CP:=Try.underlying27
 have Ff:=Try.underlying156
 have Jj:=Try.underlying81
 clear hS hP
 ·obtain ⟨nx,Aq,cq,Ao,co,hre,hcells⟩:=HP.out.e s hs
  have Bh:=hcells 0 _ rfl
  obtain ⟨L,hL⟩:∃ L,L = (X.sd s).end_:=⟨_,rfl⟩
  rw [← hL] at Bh hmx
  have h01:s = 0 ∨ s = 1:=by omega
  clear hre hcells hL hs
  rcases h01 with rfl | rfl
  all_goals (
   simp only [Nat.zero_mul,Nat.add_zero,Nat.zero_add,Nat.one_mul] at Bh
   go_enter Try.func46,Try.ntmps46
   go_wp2_with (first | ((with_reducible refine AO (N:=126) rfl ?_); (have F2:=Fm.two w cs #[.int .u32 0,.int .i64 0,.int .u32 0,.int .u32 0,.int .u32 0,.bool false,.slice none 0 0,.int .i64 0,.int .u32 0,.int .u32 0,.int .i64 0,.slice none 0 0,.int .u32 0,.int .i64 0,.int .u32 0,.int .u32 0,.int .u32 0,.bool false,.slice none 0 0,.int .i64 0,.int .u32 0,.int .u32 0,.int .i64 0,.slice none 0 0,.slice none 0 0,.slice none 0 0,.slice none 0 0] 84 84); (obtain ⟨w0,hw0⟩:∃ w0,w0 = (w.alloc (.cells cs 84)).alloc (.cells #[.int .u32 0,.int .i64 0,.int .u32 0,.int .u32 0,.int .u32 0,.bool false,.slice none 0 0,.int .i64 0,.int .u32 0,.int .u32 0,.int .i64 0,.slice none 0 0,.int .u32 0,.int .i64 0,.int .u32 0,.int .u32 0,.int .u32 0,.bool false,.slice none 0 0,.int .i64 0,.int .u32 0,.int .u32 0,.int .i64 0,.slice none 0 0,.slice none 0 0,.slice none 0 0,.slice none 0 0] 84):=⟨_,rfl⟩); (rw [← hw0] at F2 ⊢); (clear hw0); (have F:=Lib.hid F2); (clear F2); (have E:=Lib.hid ((HP.out.up F.out.up).below F.out.bw)); (refine F.out.ld 0 rfl 84 (.tmp 5) rfl rfl rfl rfl Try.underlying84 rfl (CU E.out.size) ?_)) | ((with_reducible refine gate_ (.store 84 (.tmp 10) (.tmp 126)) rfl ?_); (refine F.out.st 1 rfl rfl 84 (.tmp 10) (.tmp 126) rfl rfl rfl rfl rfl (CU E.out.size) (EX E.out.size) E.out.one ?_); (intro w8 hF hA); (have F8:=Lib.hid hF); (have E8:=Lib.hid (E.out.keep (AP hA (AX 1 rfl)))); (have Hq:=Lib.hid E.out.size); (clear hF hA)))
   have Dt:=run_loadVar_row (P:=Try.prog) w8 _ 84 84 _ (0,0) _ (F8.out.get 1 rfl rfl) Try.underlying84 rfl (CU Hq.out)
   refine bodyPost_ret (v:=_) (Az Try.results46 _ _ rfl rfl Dt) rfl ?_
   exact ⟨⟨_,rfl,E8.out.up EH⟩,F8.out.bw⟩)
end Go.Proofs.Ytnkkgofpifhoeaa.Rf
end
