/- What the laws of a pair are proved with: links and pairs in memory, what their methods do, what a pair keeps to (part 8). -/
import Derived.Test.YtnkkgofpifhoeaaPE07
set_option linter.unusedSimpArgs false
set_option linter.unusedVariables false
set_option maxRecDepth 100000
set_option maxHeartbeats 16000000
section
namespace Go.Proofs.Ytnkkgofpifhoeaa.Rf
open Go.RowKit Go.Proofs.Ytnkkgofpifhoeaa.Base Go.Proofs.Ytnkkgofpifhoeaa.Steps Go.Proofs.Ytnkkgofpifhoeaa.Lk Go.Proofs.YtnkkgofpifhoeaaW.PrintWords Go.Proofs.YtnkkgofpifhoeaaW.PrintLast
theorem Ya (w:World) {L:Lk} (hok:L.Ok) {nx:Int} (hnx:nx = IntKind.u32.wrap (L.base + L.queue.length)) (Aq:Option Addr) (nq cq:Nat) (hnq:L.queue.length = nq) (Ao:Option Addr) (no co:Nat) :
  Calls Try.prog 117 #[EV L nx Aq nq cq Ao no co] w fun e w' => e = .returned (.int .u32 L.base) ∧ Below w.heap.size w w':=by
 have h1:=hok.queue
 have h2:=hok.base
 refine (fH w L nx Aq nq cq Ao no co (by omega)).mono fun e w' hq => ⟨hq.1.trans ?_,hq.2⟩
 refine PO ?_
 rw [hnx,hnq]
 simp only [FZ]
 omega
theorem Jq (w:World) (a b:Obj):((w.alloc a).alloc b).heap[w.heap.size]? = some a :=
 (((Below.refl _ _).alloc (Nat.le_refl (w.alloc a).heap.size) b).block _ (by simp)).trans (heap_alloc_new w a)
theorem Ij (w:World) (a b:Obj):((w.alloc a).alloc b).heap[w.heap.size + 1]? = some b:=by
 have h:=heap_alloc_new (w.alloc a) b
 have e:(w.alloc a).heap.size = w.heap.size + 1:=by simp
 rw [e] at h
 exact h
theorem Yb {S:Nat → Prop} {w:World} (hS:∀ k,S k → k < w.heap.size) {L:Lk} (hok:L.Ok) (DT:L.phase ≠ 0) {nx:Int} {Aq:Option Addr} {cq:Nat} {Ao:Option Addr} {co:Nat} (h:RE S w L nx Aq cq Ao co) (i:Nat) (hi:i < L.queue.length) :
  Calls Try.prog 118 #[EV L nx Aq L.queue.length cq Ao L.out.length co,.int .i64 i] w fun e w' => (∃ v,e = .returned v ∧ RV S w' (emit_ L (Dp L i)) v) ∧ Below w.heap.size w w':=by
 have hnx:=h.nx DT
 obtain ⟨ad,r,hA,zA,⟨Ab,cb,hr,hlb,J5⟩,hcell⟩:=h.q.elem i hi []
 subst hA
 have hc0:w.cell? (ad.add i) = some (.slice Ab (L.queue.getD i []).length cb):=by have:=hcell 0 _ (by rw [hr]; rfl); rwa [show YU.sz = 1 from rfl,Nat.mul_one,Nat.add_zero] at this
 have hdp:Dp L (i:Int) = ⟨2,L.token,L.AB,L.yours,IntKind.u32.wrap (L.base + IntKind.u32.wrap (i:Int)),L.expected,0,0,0,0,L.queue.getD i []⟩:=by
  unfold Dp
  rw [Int.toNat_natCast]
 rw [hdp]
 have HE:=Lib.hid h
 have HS:=Lib.hid hS
 have Jf:=Lib.hid hok
 have HNX:=Lib.hid hnx
 have Gf:=Lib.hid J5
 have Yc:=Lib.hid hlb
 have HC0:=Lib.hid hc0
 have Wh:=hok.queue
 have hbs:=hok.base
 clear h hS hdp hok hnx hr hlb J5 hcell hc0 zA
 unfold EV
 generalize hnq:L.queue.length = nq at *
 generalize hno:L.out.length = no at *
 generalize hbd:L.queue.getD i [] = bd at *
 generalize hnb:bd.length = nb at *
 have LP:=Lib.hid hnq
 have KD:=Lib.hid hno
 have Ez:=Lib.hid hnb
 clear hnq hno hbd hnb
 have Df:=Try.underlying78
 have CP:=Try.underlying27
 go_enter Try.func118,Try.ntmps118
 go_wp2_with fail
 have hb0:=AZ (Io w (.cells #[.int .u32 L.own,.int .i64 L.phase,.int .u32 L.token,.int .u32 L.AB,.int .u32 L.yours,.bool L.known,.slice (some ad) nq cq,.int .i64 L.sent,.int .u32 nx,.int .u32 L.expected,.int .i64 L.idle,.slice Ao no co] 78) (.cells #[.int .u32 0,.int .i64 0,.int .u32 0,.int .u32 0,.int .u32 0,.bool false,.slice none 0 0,.int .i64 0,.int .u32 0,.int .u32 0,.int .i64 0,.slice none 0 0] 78))
 have hSS:((w.alloc (.cells #[.int .u32 L.own,.int .i64 L.phase,.int .u32 L.token,.int .u32 L.AB,.int .u32 L.yours,.bool L.known,.slice (some ad) nq cq,.int .i64 L.sent,.int .u32 nx,.int .u32 L.expected,.int .i64 L.idle,.slice Ao no co] 78)).alloc (.cells #[.int .u32 0,.int .i64 0,.int .u32 0,.int .u32 0,.int .u32 0,.bool false,.slice none 0 0,.int .i64 0,.int .u32 0,.int .u32 0,.int .i64 0,.slice none 0 0] 78)).drew.heap[w.heap.size]? = some (.cells #[.int .u32 L.own,.int .i64 L.phase,.int .u32 L.token,.int .u32 L.AB,.int .u32 L.yours,.bool L.known,.slice (some ad) nq cq,.int .i64 L.sent,.int .u32 nx,.int .u32 L.expected,.int .i64 L.idle,.slice Ao no co] 78 (0,0)) ∧ ((w.alloc (.cells #[.int .u32 L.own,.int .i64 L.phase,.int .u32 L.token,.int .u32 L.AB,.int .u32 L.yours,.bool L.known,.slice (some ad) nq cq,.int .i64 L.sent,.int .u32 nx,.int .u32 L.expected,.int .i64 L.idle,.slice Ao no co] 78)).alloc (.cells #[.int .u32 0,.int .i64 0,.int .u32 0,.int .u32 0,.int .u32 0,.bool false,.slice none 0 0,.int .i64 0,.int .u32 0,.int .u32 0,.int .i64 0,.slice none 0 0] 78)).drew.heap[w.heap.size + 1]? = some (.cells #[.int .u32 0,.int .i64 0,.int .u32 0,.int .u32 0,.int .u32 0,.bool false,.slice none 0 0,.int .i64 0,.int .u32 0,.int .u32 0,.int .i64 0,.slice none 0 0] 78 (0,0)) ∧ ((w.alloc (.cells #[.int .u32 L.own,.int .i64 L.phase,.int .u32 L.token,.int .u32 L.AB,.int .u32 L.yours,.bool L.known,.slice (some ad) nq cq,.int .i64 L.sent,.int .u32 nx,.int .u32 L.expected,.int .i64 L.idle,.slice Ao no co] 78)).alloc (.cells #[.int .u32 0,.int .i64 0,.int .u32 0,.int .u32 0,.int .u32 0,.bool false,.slice none 0 0,.int .i64 0,.int .u32 0,.int .u32 0,.int .i64 0,.slice none 0 0] 78)).drew.cell? (ad.add i) = some (.slice Ab nb cb):=⟨Jq _ _ _,Ij _ _ _,Bl hb0 HC0.out⟩
 refine BA (n:=22) (S:=fun w' => w'.heap[w.heap.size]? = some (.cells #[.int .u32 L.own,.int .i64 L.phase,.int .u32 L.token,.int .u32 L.AB,.int .u32 L.yours,.bool L.known,.slice (some ad) nq cq,.int .i64 L.sent,.int .u32 nx,.int .u32 L.expected,.int .i64 L.idle,.slice Ao no co] 78 (0,0)) ∧ w'.heap[w.heap.size + 1]? = some (.cells #[.int .u32 0,.int .i64 0,.int .u32 0,.int .u32 0,.int .u32 0,.bool false,.slice none 0 0,.int .i64 0,.int .u32 0,.int .u32 0,.int .i64 0,.slice none 0 0] 78 (0,0)) ∧ w'.cell? (ad.add i) = some (.slice Ab nb cb)) (ds:=[21]) M2V (by kernel_rfl) rfl rfl (hSS) (fun hHeld => ?_)
 generalize ((w.alloc (.cells #[.int .u32 L.own,.int .i64 L.phase,.int .u32 L.token,.int .u32 L.AB,.int .u32 L.yours,.bool L.known,.slice (some ad) nq cq,.int .i64 L.sent,.int .u32 nx,.int .u32 L.expected,.int .i64 L.idle,.slice Ao no co] 78)).alloc (.cells #[.int .u32 0,.int .i64 0,.int .u32 0,.int .u32 0,.int .u32 0,.bool false,.slice none 0 0,.int .i64 0,.int .u32 0,.int .u32 0,.int .i64 0,.slice none 0 0] 78)).drew = w4 at hb0 hHeld ⊢
 have HB0:=Lib.hid hb0
 clear hb0
 refine tk 0 5 M2W hHeld ?_ (hf:=by intro w' s0; have Df:=Try.underlying78; have hc0:w'.cell? ⟨w.heap.size,0,none⟩ = some (.int .u32 L.own):=(AA s0.1 0).trans rfl; have hc1:w'.cell? ⟨w.heap.size,1,none⟩ = some (.int .i64 L.phase):=(AA s0.1 1).trans rfl; have hc2:w'.cell? ⟨w.heap.size,2,none⟩ = some (.int .u32 L.token):=(AA s0.1 2).trans rfl; have hc3:w'.cell? ⟨w.heap.size,3,none⟩ = some (.int .u32 L.AB):=(AA s0.1 3).trans rfl; have hc4:w'.cell? ⟨w.heap.size,4,none⟩ = some (.int .u32 L.yours):=(AA s0.1 4).trans rfl; have hc5:w'.cell? ⟨w.heap.size,5,none⟩ = some (.bool L.known):=(AA s0.1 5).trans rfl; have hc6:w'.cell? ⟨w.heap.size,6,none⟩ = some (.slice (some ad) nq cq):=(AA s0.1 6).trans rfl; have Xt:w'.cell? ⟨w.heap.size,7,none⟩ = some (.int .i64 L.sent):=(AA s0.1 7).trans rfl; have hc8:w'.cell? ⟨w.heap.size,8,none⟩ = some (.int .u32 nx):=(AA s0.1 8).trans rfl; have Bh:w'.cell? ⟨w.heap.size,9,none⟩ = some (.int .u32 L.expected):=(AA s0.1 9).trans rfl; have IL:w'.cell? ⟨w.heap.size,10,none⟩ = some (.int .i64 L.idle):=(AA s0.1 10).trans rfl; have Ob:w'.cell? ⟨w.heap.size,11,none⟩ = some (.slice Ao no co):=(AA s0.1 11).trans rfl; clear s0; go_simp; try rfl)
 refine pu 1 6 M2X ?_
 refine tk 2 7 M2Y hHeld ?_ (hf:=by intro w' s0; have hc2:w'.cell? ⟨w.heap.size,2,none⟩ = some (.int .u32 L.token):=(AA s0.1 2).trans rfl; clear s0; go_simp; with_reducible rfl)
 refine pu 3 8 M2Z ?_
 refine tk 4 9 M30 hHeld ?_ (hf:=by intro w' s0; have hc3:w'.cell? ⟨w.heap.size,3,none⟩ = some (.int .u32 L.AB):=(AA s0.1 3).trans rfl; clear s0; go_simp; with_reducible rfl)
 refine pu 5 10 M32 ?_
 refine tk 6 11 M33 hHeld ?_ (hf:=by intro w' s0; have hc4:w'.cell? ⟨w.heap.size,4,none⟩ = some (.int .u32 L.yours):=(AA s0.1 4).trans rfl; clear s0; go_simp; with_reducible rfl)
 refine tk 7 12 M35 hHeld ?_ (hf:=by intro w' s0; have Df:=Try.underlying78; have hc0:w'.cell? ⟨w.heap.size,0,none⟩ = some (.int .u32 L.own):=(AA s0.1 0).trans rfl; have hc1:w'.cell? ⟨w.heap.size,1,none⟩ = some (.int .i64 L.phase):=(AA s0.1 1).trans rfl; have hc2:w'.cell? ⟨w.heap.size,2,none⟩ = some (.int .u32 L.token):=(AA s0.1 2).trans rfl; have hc3:w'.cell? ⟨w.heap.size,3,none⟩ = some (.int .u32 L.AB):=(AA s0.1 3).trans rfl; have hc4:w'.cell? ⟨w.heap.size,4,none⟩ = some (.int .u32 L.yours):=(AA s0.1 4).trans rfl; have hc5:w'.cell? ⟨w.heap.size,5,none⟩ = some (.bool L.known):=(AA s0.1 5).trans rfl; have hc6:w'.cell? ⟨w.heap.size,6,none⟩ = some (.slice (some ad) nq cq):=(AA s0.1 6).trans rfl; have Xt:w'.cell? ⟨w.heap.size,7,none⟩ = some (.int .i64 L.sent):=(AA s0.1 7).trans rfl; have hc8:w'.cell? ⟨w.heap.size,8,none⟩ = some (.int .u32 nx):=(AA s0.1 8).trans rfl; have Bh:w'.cell? ⟨w.heap.size,9,none⟩ = some (.int .u32 L.expected):=(AA s0.1 9).trans rfl; have IL:w'.cell? ⟨w.heap.size,10,none⟩ = some (.int .i64 L.idle):=(AA s0.1 10).trans rfl; have Ob:w'.cell? ⟨w.heap.size,11,none⟩ = some (.slice Ao no co):=(AA s0.1 11).trans rfl; clear s0; go_simp; try rfl)
 refine pu 9 14 M36 ?_
 refine pu 10 15 M38 ?_
 refine pu 12 17 M39 ?_
 refine tk 13 18 M3b hHeld ?_ (hf:=by intro w' s0; have Bh:w'.cell? ⟨w.heap.size,9,none⟩ = some (.int .u32 L.expected):=(AA s0.1 9).trans rfl; clear s0; go_simp; with_reducible rfl)
 refine pu 14 19 M3c ?_
 refine tk 15 20 M3e hHeld ?_ (hf:=by intro w' s0; have hc6:w'.cell? ⟨w.heap.size,6,none⟩ = some (.slice (some ad) nq cq):=(AA s0.1 6).trans rfl; clear s0; go_simp; with_reducible rfl)
 refine pu 16 21 M3g ?_
 refine pu 17 22 M3i ?_
 refine tk 18 23 M3k hHeld ?_ (hf:=by intro w' s0; have hcq:=s0.2.2; clear s0; go_simp; with_reducible rfl)
 have VS:=Lib.hid hHeld
 have J4:=HB0.out.size
 have hlt4:=AQ hHeld.2.1
 refine on 8 (some 13) M3m fun K hK => ?_
 refine BH Try.func117 (by kernel_rfl) rfl #[.agg #[.int .u32 L.own,.int .i64 L.phase,.int .u32 L.token,.int .u32 L.AB,.int .u32 L.yours,.bool L.known,.slice (some ad) nq cq,.int .i64 L.sent,.int .u32 nx,.int .u32 L.expected,.int .i64 L.idle,.slice Ao no co]] (by rfl) rfl rfl (by (try simp only [List.map_toArray,List.map_cons,List.map_nil]); first | done | rfl) ?_
 refine (Ya w4 Jf.out (by rw [HNX.out,LP.out]) (some ad) nq cq LP.out Ao no co).mono ?_
 rintro e w' ⟨rfl,hb5⟩
 refine ⟨_,rfl,?_⟩
 have FN:=Lib.hid hb5
 clear hb5 hHeld
 refine hK.out _ _ (⟨(FN.out.block _ (by omega)).trans VS.out.1,(FN.out.block _ hlt4).trans VS.out.2.1,Bl FN.out VS.out.2.2⟩) (fun hHeld => ?_)
 clear hK K
 refine nm 13 ?_
 refine pu 11 16 M3o ?_
 refine pu 19 24 M3q ?_
 refine on 20 (some 25) M3s fun K hK => ?_
 have hcx:=YY (S:=plus S w 2) (w:=w') (JR HS.out (by have:=FN.out.size; omega)) (L:=L) (nx:=nx) (Aq:=some ad) (nq:=nq) (cq:=cq) (Ao:=Ao) (co:=co) (((HE.out.o.up (by decide) FB).below HB0.out).below FN.out) ⟨2,L.token,L.AB,L.yours,IntKind.u32.wrap (L.base + IntKind.u32.wrap (i:Int)),L.expected,0,0,0,0,bd⟩ (Ab:=Ab) (cb:=cb) (((Gf.out.up FB).below HB0.out).below FN.out) (by rw [Ez.out]; exact Yc.out)
 simp only [ev,cells,KD.out,Ez.out] at hcx
 refine BH Try.func130 (by kernel_rfl) rfl #[.agg #[.int .u32 L.own,.int .i64 L.phase,.int .u32 L.token,.int .u32 L.AB,.int .u32 L.yours,.bool L.known,.slice (some ad) nq cq,.int .i64 L.sent,.int .u32 nx,.int .u32 L.expected,.int .i64 L.idle,.slice Ao no co],.agg #[.int .i64 2,.int .u32 L.token,.int .u32 L.AB,.int .u32 L.yours,.int .u32 (IntKind.u32.wrap (L.base + IntKind.u32.wrap (i:Int))),.int .u32 L.expected,.int .u32 0,.int .u32 0,.complex .f64 0 0,.slice Ab nb cb]] (by rfl) rfl rfl (by (try simp only [List.map_toArray,List.map_cons,List.map_nil]); first | done | rfl) ?_
 refine hcx.mono ?_
 clear hcx
 intro e w6 hem
 obtain ⟨A1,c1,he,qm,hb6⟩:=hem
 subst he
 refine ⟨_,rfl,?_⟩
 have IE:=Lib.hid hb6
 have y9:=Lib.hid qm
 have zB:=AQ hHeld.2.1
 clear hb6 qm
 refine hK.out _ _ ⟨(IE.out.block _ (by omega)).trans hHeld.1,(IE.out.block _ zB).trans hHeld.2.1,Bl IE.out hHeld.2.2⟩ (fun hHeld => ?_)
 clear hK K
 refine nm 25 ?_
 refine la 21 none M3u fun K hK => ?_
 refine row_step (by rfl) rfl 78 (.tmp 4) (.tmp 25) rfl (w.heap.size + 1) _ rfl rfl 78 _ hHeld.2.1 (by kernel_rfl) rfl (by kernel_rfl) (fun w7 hb7 Ba => ?_)
 have zC:=Lib.hid hb7
 have Yd:=Lib.hid Ba
 clear hb7 Ba hHeld
 refine hK.out _ _ ?_
 clear hK K
 refine BG (by kernel_rfl) ?_
 go_wp2
 have Dt:=run_loadVar_row (P:=Try.prog) w7 (w.heap.size + 1) 78 78 _ (0,0) _ zC.out Try.underlying78 rfl (by kernel_rfl)
 have hbl:Below w.heap.size w w7:=Yd.out.below ((HB0.out.trans (FN.out.mono J4)).trans (IE.out.mono (by have:=FN.out.size; omega))) (by omega)
 refine bodyPost_ret (v:=_) (Pk.results_cell Try.results118 _ _ rfl Dt) rfl ?_
 refine ⟨⟨_,rfl,nx,some ad,cq,A1,c1,?_,?_⟩,hbl⟩
 ·rw [KU,LP.out]
 ·exact HE.out.emit _ (Kept.of_below hbl _) ((y9.out.keep (AP Yd.out (CE (by decide)))).up (by decide) IV)
theorem Z35 {p:Prop} (h:p:=by
 have HE:=Lib.hid h
 have HS:=Lib.hid hS
 clear h hS
 unfold EV
 generalize hnq:L.queue.length = nq at *
 generalize hno:L.out.length = no at *
 have LP:=Lib.hid hnq
 have KD:=Lib.hid hno
 clear hnq hno
 have Df:=Try.underlying78
 go_enter Try.func84,Try.ntmps84
 go_wp2
 all_goals go_returns
 all_goals (refine ⟨⟨_,rfl,nx,Aq,cq,Ao,co,?_,HE.out.below (Io _ _ _)⟩,Io _ _ _⟩; (rw [LP.out,KD.out]; rfl))):p:=h
theorem qo {S:Nat → Prop} {w:World} (hS:∀ k,S k → k < w.heap.size) {L:Lk} (hok:L.Ok) {nx:Int} {Aq:Option Addr} {cq:Nat} {Ao:Option Addr} {co:Nat} (h:RE S w L nx Aq cq Ao co) :
  Calls Try.prog 84 #[EV L nx Aq L.queue.length cq Ao L.out.length co] w fun e w' => (∃ v,e = .returned (.tuple #[v,.int .i64 (EK L)]) ∧ RV S w' (DN L) v) ∧ Below w.heap.size w w':=by
 have htk:=hok.token
 by_cases h0:L.phase = 0
 rotate_left
 ·have e1:EK L = 110:=if_neg h0
  have e2:DN L = L:=if_neg (fun x => h0 x.1)
  have hq0:(L.phase != 0) = true:=by simp [h0]
  rw [e1,e2]
  clear h0 e1 e2 hok htk
  exact Z35
 have hq0:(L.phase != 0) = false:=by simp [h0]
 by_cases h1:L.token = 4294967295
 ·have e1:EK L = 111:=by unfold EK; rw [if_pos h0,if_pos h1]
  have e2:DN L = L:=if_neg (fun x => x.2 h1)
  have hq1:(L.token == 4294967295) = true:=by simp [h1]
  rw [e1,e2]
  clear h0 h1 e1 e2 hok htk
  exact Z35
 have e1:EK L = 0:=by unfold EK; rw [if_pos h0,if_neg h1]
 have e2:DN L = emit_ (CB L) (Bc (CB L)):=if_pos ⟨h0,h1⟩
 have hq1:(L.token == 4294967295) = false:=by simp [h1]
 have eu:=Lib.hid (show 0 ≤ L.token ∧ L.token < 4294967295 from by omega)
 rw [e1,e2]
 clear h0 h1 e1 e2 hok htk
 have HE:=Lib.hid h
 have HS:=Lib.hid hS
 clear h hS
 unfold EV
 generalize hnq:L.queue.length = nq at *
 generalize hno:L.out.length = no at *
 have LP:=Lib.hid hnq
 have KD:=Lib.hid hno
 clear hnq hno
 have Df:=Try.underlying78
 go_enter Try.func84,Try.ntmps84
 go_wp2_with (first | (go_at_call 116; (have hc:=fun (W:World) (hW:Below w.heap.size w W) => YZ (S:=plus S w 2) ((HE.out.up FB).below hW) eu.out); (simp only [LP.out,KD.out] at hc); (with_reducible refine (hc _ (Io w _ _)).mono ?_); clear hc; (intro e w1 hq); (obtain ⟨⟨he,fE⟩,hb1⟩:=hq); (have HR1:=Lib.hid fE); (have HB1:=Lib.hid ((Io w _ _).trans (hb1.mono (Io w _ _).size))); (have HZ1:=Lib.hid ((hb1.block (w.heap.size + 1) (by first | (simp; done) | (simp; omega))).trans (Ij _ _ _))); (have Pz:=Lib.hid (show w.heap.size + 2 ≤ w1.heap.size from by (have h9:=hb1.size); simp at h9; omega)); (subst he); (clear fE hb1)) | (go_at_call 115; (have hc:=Py (S:=plus S w 2) (JR HS.out Pz.out) HR1.out); (rw [show (CB L).out.length = no from KD.out,show (CB L).queue.length = 0 from rfl] at hc); (with_reducible refine hc.mono ?_); clear hc; (intro e w2 hq); (obtain ⟨⟨v,he,IW⟩,hb2⟩:=hq); (obtain ⟨Ed,A2,c2,A3,c3,hv,BM⟩:=IW); (subst hv); (subst he); (have HR2:=Lib.hid BM); (have HB2:=Lib.hid (HB1.out.trans (hb2.mono HB1.out.size))); (have HZ2:=Lib.hid ((hb2.block (w.heap.size + 1) (AQ HZ1.out)).trans HZ1.out)); (clear BM hb2)) | ((with_reducible refine gate_ (.store 78 (.tmp 2) (.tmp 14)) rfl ?_); (refine Ad rfl rfl 78 (.tmp 2) (.tmp 14) rfl (w.heap.size + 1) _ rfl rfl 78 _ HZ2.out (by kernel_rfl) rfl (by kernel_rfl) ?_); (intro w3 hbX Ec); (have HB3:=Lib.hid hbX); (have qp:=Lib.hid Ec); (clear hbX Ec)))
 have Dt:=run_loadVar_row (P:=Try.prog) w3 (w.heap.size + 1) 78 78 _ (0,0) _ HB3.out Try.underlying78 rfl (by kernel_rfl)
 have hbl:Below w.heap.size w w3:=qp.out.below HB2.out (by omega)
 refine bodyPost_ret (v:=_) (Az Try.results84 _ _ rfl rfl Dt) rfl ?_
 exact ⟨⟨_,rfl,Ed,A2,c2,A3,c3,rfl,(HR2.out.keep (AP qp.out (CE (by decide)))).up IV⟩,hbl⟩
end Go.Proofs.Ytnkkgofpifhoeaa.Rf
end
section
namespace Go.Proofs.Ytnkkgofpifhoeaa.Pr
open Go.RowKit Go.Proofs.Ytnkkgofpifhoeaa.Base Go.Proofs.Ytnkkgofpifhoeaa.Steps Go.Proofs.Ytnkkgofpifhoeaa.Lk Go.Proofs.Ytnkkgofpifhoeaa.Fg Go.Proofs.YtnkkgofpifhoeaaW.PrintWords Go.Proofs.YtnkkgofpifhoeaaW.PrintLast
def GU (X:Pr) (f:Fl):Pr:=if X.way.length < 1024 then { X with way:=X.way ++ [f] } else X
theorem P5:(Try.prog.info? 150).map (fun i => (i.zero,i.size,i.bytes)) = some (some (.agg #[.int .i64 0,.int .u32 0,.int .i64 0,.int .u32 0,.int .u32 0,.int .u32 0,.int .u32 0,.int .u32 0,.int .u32 0,.int .u32 0,.complex .f64 0 0,.slice none 0 0]),12,96):=by kernel_rfl
def Grew (w:World) (own own':Nat → Nat → Prop):Prop:=(∀ i k,own i k → own' i k) ∧ ∀ i k,own' i k → own i k ∨ w.heap.size ≤ k
theorem Grew.refl (w:World) (own:Nat → Nat → Prop):Grew w own own:=⟨fun _ _ h => h,fun _ _ h => .inl h⟩
theorem Grew.grow {w w2 w3:World} {own:Nat → Nat → Prop} (i:Nat) (h:w.heap.size ≤ w2.heap.size):Grew w own (grow own i w2 w3):=⟨fun _ _ h => .inl h,fun _ _ hx => hx.elim .inl (fun y => .inr (Nat.le_trans h y.2.1))⟩
theorem Grew.trans {w w1:World} {own CQ Jg:Nat → Nat → Prop} (h1:Grew w own CQ) (h:w.heap.size ≤ w1.heap.size) (h2:Grew w1 CQ Jg):Grew w own Jg:=⟨fun i k hx => h2.1 i k (h1.1 i k hx),fun i k hx => (h2.2 i k hx).elim (h1.2 i k) (fun y => .inr (Nat.le_trans h y))⟩
def Moves (w:World) (B gp:Nat) (ge:Nat → Nat) (own:Nat → Nat → Prop) (X:Pr) (S:Nat → Prop) (w':World):Prop :=
 ∃ own' lv wv,Dj w' B gp ge own' X lv wv ∧ Grew w own own' ∧ Kept w w' S ∧ Below B w w'
theorem Ye {w:World} {B:Nat} {ok:Nat → Prop} {f:Fl} {cs:List Value} {v:Value} {ws:List Fl} (hM:TC.M w B ok f cs) (hw:Fg TC 150 w B ok v ws) (hq:TC.Q 150 w B ok v ws):TC.M w B (fun k => ok k ∧ some k ≠ v.ownBlock) f cs:=by
 refine TC.BU (fun k hk => ⟨hk.1,fun he => ?_⟩) (TC.CW hM)
 obtain ⟨h1,_,_,t,ht,c,hc⟩:=hk
 obtain ⟨c2,hc2⟩:=Kd.VH hq k he.symm
 rw [hc] at hc2
 injection hc2 with hc2
 injection hc2 with _ hc2 _
 subst hc2
 rw [qf] at ht
 exact absurd ht (by decide)
theorem bF {w:World} {B gp:Nat} {ge:Nat → Nat} {own:Nat → Nat → Prop} {X:Pr} {lv:Nat → Value} {v:Value} (h:Dj w B gp ge own X lv v) (f:Fl) (b:Value) (hM:TC.M w B (own 5) f (FV f b)) (hl:X.way.length < 1024) :
  ∃ v1 w1,(Builtin.append_ #[141,141] 141 #[v,.slice (some ⟨w.heap.size,0,none⟩) 1 1]).run Try.prog (w.alloc (.cells (FV f b).toArray 150)) = .ok v1 w1 ∧ Fg TC 150 w1 B (fun k => own 5 k ∨ w.heap.size ≤ k) v1 (X.way ++ [f]) ∧ Kept w w1 (fun k => own 5 k ∧ ∃ cells,w.heap[k]? = some (.cells cells 150 (0,0))) ∧ Below B w w1 :=
 Fg.put (P:=Try.prog) 141 141 (.agg #[.int .i64 0,.int .u32 0,.int .i64 0,.int .u32 0,.int .u32 0,.int .u32 0,.int .u32 0,.int .u32 0,.int .u32 0,.int .u32 0,.complex .f64 0 0,.slice none 0 0]) 96 Try.underlying141 P5 rfl (by decide) (by decide) h.way h.hB f (FV f b) hM (fun hq => Ye hM h.way hq) (by omega)
theorem Wi {w w2 w3:World} {B gp:Nat} {ge:Nat → Nat} {own:Nat → Nat → Prop} {X:Pr} {lv:Nat → Value} {wv v1:Value} {ws:List Fl} (h:Dj w B gp ge own X lv wv) (hb:Below w.heap.size w w2) (hW:Fg TC 150 w3 B (fun k => own 5 k ∨ w2.heap.size ≤ k) v1 ws)
  (hk:Kept w2 w3 (fun k => own 5 k ∧ ∃ cells,w2.heap[k]? = some (.cells cells 150 (0,0)))) (hb3:Below B w2 w3):Moves w B gp ge own { X with way:=ws } (fun k => k = gp ∨ own 5 k ∧ ∃ cells,w.heap[k]? = some (.cells cells 150 (0,0))) (w3.setCell ⟨gp,18,none⟩ v1):=by
 have h2:=h.sub hb
 refine ⟨_,lv,v1,h2.YS (hk.mono (fun k hx => hx.1)) hW,Grew.grow 5 hb.size,?_,?_⟩
 ·refine Kept.setCell (p:=⟨gp,18,none⟩) ((Kept.of_below hb _).BQ hk (fun k hx => .inl (.inr ⟨hx.1,?_⟩))) (.inl (.inl rfl)) _
  obtain ⟨cells,hc⟩:=hx.2
  exact ⟨cells,(hb.block k (h.lt 5 k hx.1)).symm.trans hc⟩
 ·exact ((hb.mono h.hB).trans hb3).setCell (p:=⟨gp,18,none⟩) h.low _
theorem Yf {w:World} {B gp:Nat} {ge:Nat → Nat} {own:Nat → Nat → Prop} {X:Pr} {lv:Nat → Value} {wv:Value} (h:Dj w B gp ge own X lv wv) (f:Fl) (b:Value) (hM:TC.M w B (own 5) f (FV f b)) (Fh:X.way.length ≤ 1024) :
  Calls Try.prog 83 #[.pointer (some ⟨gp,0,none⟩),.agg #[.int .i64 f.dst,.int .u32 f.AB,.int .i64 f.p.kind,.int .u32 f.p.mine,.int .u32 f.p.AB,.int .u32 f.p.yours,.int .u32 f.p.seq,.int .u32 f.p.AV,.int .u32 f.p.stamp,.int .u32 f.p.echo,.complex .f64 f.p.zr f.p.zi,b]] w fun e w' => e = .returned (.tuple #[]) ∧ Moves w B gp ge own (GU X f) (fun k => k = gp ∨ own 5 k ∧ ∃ cells,w.heap[k]? = some (.cells cells 150 (0,0))) w':=by
 obtain ⟨Aw,cw,_,hwv,hlc,_⟩:=h.way.reads
 subst hwv
 have hba:Below w.heap.size w (w.alloc (.cells #[.int .i64 f.dst,.int .u32 f.AB,.int .i64 f.p.kind,.int .u32 f.p.mine,.int .u32 f.p.AB,.int .u32 f.p.yours,.int .u32 f.p.seq,.int .u32 f.p.AV,.int .u32 f.p.stamp,.int .u32 f.p.echo,.complex .f64 f.p.zr f.p.zi,b] 150)):=(Below.refl _ _).alloc (Nat.le_refl _) _
 have H:=Lib.hid h
 have H1:=Lib.hid (h.sub hba)
 have HM:=Lib.hid hM
 have hc18:(w.alloc (.cells #[.int .i64 f.dst,.int .u32 f.AB,.int .i64 f.p.kind,.int .u32 f.p.mine,.int .u32 f.p.AB,.int .u32 f.p.yours,.int .u32 f.p.seq,.int .u32 f.p.AV,.int .u32 f.p.stamp,.int .u32 f.p.echo,.complex .f64 f.p.zr f.p.zi,b] 150)).cell? ⟨gp,18,none⟩ = some (.slice Aw X.way.length cw):=(AA H1.out.blk 18).trans rfl
 have V9:=Lib.hid (heap_alloc_new w (.cells #[.int .i64 f.dst,.int .u32 f.AB,.int .i64 f.p.kind,.int .u32 f.p.mine,.int .u32 f.p.AB,.int .u32 f.p.yours,.int .u32 f.p.seq,.int .u32 f.p.AV,.int .u32 f.p.stamp,.int .u32 f.p.echo,.complex .f64 f.p.zr f.p.zi,b] 150))
 have Ir:=Lib.hid hba
 clear h hM hba
 go_enter Try.func83,Try.ntmps83
 go_wp2_with fail
 rotate_left
 ·go_end0
  have hX:GU X f = X:=by unfold GU; rw [if_neg (by omega)]
  rw [hX]
  exact ⟨rfl,own,lv,_,H1.out,Grew.refl _ _,Kept.of_below Ir.out _,Ir.out.mono H.out.hB⟩
 have hX:GU X f = { X with way:=X.way ++ [f] }:=by unfold GU; rw [if_pos (by omega)]
 have HXX:=Lib.hid hX
 clear hX
 have hlt:X.way.length < 1024:=by omega
 have WS:=Lib.hid hlt
 clear hlt
 have hbd:Below w.heap.size w (w.alloc (.cells #[.int .i64 f.dst,.int .u32 f.AB,.int .i64 f.p.kind,.int .u32 f.p.mine,.int .u32 f.p.AB,.int .u32 f.p.yours,.int .u32 f.p.seq,.int .u32 f.p.AV,.int .u32 f.p.stamp,.int .u32 f.p.echo,.complex .f64 f.p.zr f.p.zi,b] 150)).drew:=AZ Ir.out
 have hSS:(w.alloc (.cells #[.int .i64 f.dst,.int .u32 f.AB,.int .i64 f.p.kind,.int .u32 f.p.mine,.int .u32 f.p.AB,.int .u32 f.p.yours,.int .u32 f.p.seq,.int .u32 f.p.AV,.int .u32 f.p.stamp,.int .u32 f.p.echo,.complex .f64 f.p.zr f.p.zi,b] 150)).drew.heap[gp]? = some (.cells (BK X ge lv (.slice Aw X.way.length cw)) 143 (0,0)) ∧ (w.alloc (.cells #[.int .i64 f.dst,.int .u32 f.AB,.int .i64 f.p.kind,.int .u32 f.p.mine,.int .u32 f.p.AB,.int .u32 f.p.yours,.int .u32 f.p.seq,.int .u32 f.p.AV,.int .u32 f.p.stamp,.int .u32 f.p.echo,.complex .f64 f.p.zr f.p.zi,b] 150)).drew.heap[w.heap.size]? = some (.cells #[.int .i64 f.dst,.int .u32 f.AB,.int .i64 f.p.kind,.int .u32 f.p.mine,.int .u32 f.p.AB,.int .u32 f.p.yours,.int .u32 f.p.seq,.int .u32 f.p.AV,.int .u32 f.p.stamp,.int .u32 f.p.echo,.complex .f64 f.p.zr f.p.zi,b] 150 (0,0)):=⟨H1.out.blk,V9.out⟩
 have hsz0:(w.alloc (.cells #[.int .i64 f.dst,.int .u32 f.AB,.int .i64 f.p.kind,.int .u32 f.p.mine,.int .u32 f.p.AB,.int .u32 f.p.yours,.int .u32 f.p.seq,.int .u32 f.p.AV,.int .u32 f.p.stamp,.int .u32 f.p.echo,.complex .f64 f.p.zr f.p.zi,b] 150)).drew.heap.size = w.heap.size + 1:=by simp [World.drew]
 clear H1 Ir V9 hc18
 refine BA (n:=11) (S:=fun w' => w'.heap[gp]? = some (.cells (BK X ge lv (.slice Aw X.way.length cw)) 143 (0,0)) ∧ w'.heap[w.heap.size]? = some (.cells #[.int .i64 f.dst,.int .u32 f.AB,.int .i64 f.p.kind,.int .u32 f.p.mine,.int .u32 f.p.AB,.int .u32 f.p.yours,.int .u32 f.p.seq,.int .u32 f.p.AV,.int .u32 f.p.stamp,.int .u32 f.p.echo,.complex .f64 f.p.zr f.p.zi,b] 150 (0,0))) (ds:=[10]) gz (by kernel_rfl) rfl rfl (hSS) (fun hHeld => ?_)
 generalize (w.alloc (.cells #[.int .i64 f.dst,.int .u32 f.AB,.int .i64 f.p.kind,.int .u32 f.p.mine,.int .u32 f.p.AB,.int .u32 f.p.yours,.int .u32 f.p.seq,.int .u32 f.p.AV,.int .u32 f.p.stamp,.int .u32 f.p.echo,.complex .f64 f.p.zr f.p.zi,b] 150)).drew = w2 at hbd hsz0 hHeld ⊢
 have BB:=Lib.hid hbd
 have OU:=Lib.hid hsz0
 clear hbd hsz0
 refine pu 0 10 nK ?_
 refine pu 1 11 nM ?_
 refine pu 2 12 vg ?_
 refine pu 3 13 vk ?_
 refine tk 4 14 vw hHeld ?_ (hf:=by intro w' s0; have hc18:w'.cell? ⟨gp,18,none⟩ = some (.slice Aw X.way.length cw):=(AA s0.1 18).trans rfl; clear s0; go_simp; with_reducible rfl)
 refine tk 5 15 vz hHeld ?_ (hf:=by intro w' s0; have qw:=Try.underlying150; have hc0:w'.cell? ⟨w.heap.size,0,none⟩ = some (.int .i64 f.dst):=(AA s0.2 0).trans rfl; have hc1:w'.cell? ⟨w.heap.size,1,none⟩ = some (.int .u32 f.AB):=(AA s0.2 1).trans rfl; have hc2:w'.cell? ⟨w.heap.size,2,none⟩ = some (.int .i64 f.p.kind):=(AA s0.2 2).trans rfl; have hc3:w'.cell? ⟨w.heap.size,3,none⟩ = some (.int .u32 f.p.mine):=(AA s0.2 3).trans rfl; have hc4:w'.cell? ⟨w.heap.size,4,none⟩ = some (.int .u32 f.p.AB):=(AA s0.2 4).trans rfl; have hc5:w'.cell? ⟨w.heap.size,5,none⟩ = some (.int .u32 f.p.yours):=(AA s0.2 5).trans rfl; have hc6:w'.cell? ⟨w.heap.size,6,none⟩ = some (.int .u32 f.p.seq):=(AA s0.2 6).trans rfl; have Xt:w'.cell? ⟨w.heap.size,7,none⟩ = some (.int .u32 f.p.AV):=(AA s0.2 7).trans rfl; have hc8:w'.cell? ⟨w.heap.size,8,none⟩ = some (.int .u32 f.p.stamp):=(AA s0.2 8).trans rfl; have Bh:w'.cell? ⟨w.heap.size,9,none⟩ = some (.int .u32 f.p.echo):=(AA s0.2 9).trans rfl; have IL:w'.cell? ⟨w.heap.size,10,none⟩ = some (.complex .f64 f.p.zr f.p.zi):=(AA s0.2 10).trans rfl; have Ob:w'.cell? ⟨w.heap.size,11,none⟩ = some (b):=(AA s0.2 11).trans rfl; clear s0; go_simp; try rfl)
 refine on 6 (some 16) wB fun K hK => ?_
 refine Es (v:=.slice (some ⟨w2.heap.size,0,none⟩) 1 1) (by rfl) rfl (w1:=w2.alloc (.cells #[.int .i64 f.dst,.int .u32 f.AB,.int .i64 f.p.kind,.int .u32 f.p.mine,.int .u32 f.p.AB,.int .u32 f.p.yours,.int .u32 f.p.seq,.int .u32 f.p.AV,.int .u32 f.p.stamp,.int .u32 f.p.echo,.complex .f64 f.p.zr f.p.zi,b] 150)) ?_ ?_
 ·first | (go_simp; done) | (go_simp; rfl)
 have hb2:=(Below.refl w2.heap.size w2).alloc (Nat.le_refl _) (.cells #[.int .i64 f.dst,.int .u32 f.AB,.int .i64 f.p.kind,.int .u32 f.p.mine,.int .u32 f.p.AB,.int .u32 f.p.yours,.int .u32 f.p.seq,.int .u32 f.p.AV,.int .u32 f.p.stamp,.int .u32 f.p.echo,.complex .f64 f.p.zr f.p.zi,b] 150)
 have HS2:=Lib.hid hHeld
 refine hK.out _ _ ⟨(hb2.block gp (AQ hHeld.1)).trans hHeld.1,(hb2.block w.heap.size (AQ hHeld.2)).trans hHeld.2⟩ (fun hHeld => ?_)
 clear hK K
 refine nm 16 ?_
 refine on 7 (some 17) nN fun K hK => ?_
 have hQ2:=H.out.sub BB.out
 have hM2:=Kd.PX HM.out (Kept.of_below BB.out (fun _ => False)) (fun _ _ hf => hf)
 obtain ⟨v1,w3,hrun,hW,wO,hBl⟩:=bF hQ2 f b hM2 WS.out
 obtain ⟨A1,c1,_,hv1,_⟩:=hW.reads
 generalize (X.way ++ [f]).length = n1 at hv1
 subst hv1
 have iw:w3.heap[gp]? = some (.cells (BK X ge lv (.slice Aw X.way.length cw)) 143 (0,0)):=Ap HS2.out.1 wO (fun hx => H.out.Hl _ hx.1)
 have qP:w3.heap[w.heap.size]? = some (.cells #[.int .i64 f.dst,.int .u32 f.AB,.int .i64 f.p.kind,.int .u32 f.p.mine,.int .u32 f.p.AB,.int .u32 f.p.yours,.int .u32 f.p.seq,.int .u32 f.p.AV,.int .u32 f.p.stamp,.int .u32 f.p.echo,.complex .f64 f.p.zr f.p.zi,b] 150 (0,0)):=Ap HS2.out.2 wO (fun hx => by have:=H.out.lt 5 _ hx.1; omega)
 refine Lt (P:=Try.prog) (w1:=w3) (v:=.slice Aw X.way.length cw) ?hw (.tmp 14) (.tmp 16) 141 ?ho (.slice (some ⟨w2.heap.size,0,none⟩) 1 1) (.slice A1 n1 c1) ?hs ?hx ?hr ?hk
 case hw => rfl
 case ho => rfl
 case hs => rfl
 case hx => rfl
 case hr => exact hrun
 have eY:=Lib.hid iw
 have HW3:=Lib.hid hW
 have Xu:=Lib.hid wO
 have zD:=Lib.hid hBl
 have HQ2:=Lib.hid hQ2
 clear hrun hW wO hBl hQ2 hM2 HM hHeld HS2
 refine hK.out _ _ ⟨iw,qP⟩ (fun hHeld => ?_)
 clear hK K iw qP
 refine nm 17 ?_
 refine pu 8 18 iD ?_
 refine pu 9 19 iF ?_
 refine la 10 none iG fun K hK => ?_
 have hz1:w3.cell? ⟨gp,18,none⟩ = some (.slice Aw X.way.length cw):=(AA eY.out 18).trans rfl
 have hz2:=AL eY.out 18
 refine CG (fun wz => Moves w B gp ge own { X with way:=X.way ++ [f] } (fun k => k = gp ∨ own 5 k ∧ ∃ cells,w.heap[k]? = some (.cells cells 150 (0,0))) wz ∧ wz.heap[w.heap.size]? = some (.cells #[.int .i64 f.dst,.int .u32 f.AB,.int .i64 f.p.kind,.int .u32 f.p.mine,.int .u32 f.p.AB,.int .u32 f.p.yours,.int .u32 f.p.seq,.int .u32 f.p.AV,.int .u32 f.p.stamp,.int .u32 f.p.echo,.complex .f64 f.p.zr f.p.zi,b] 150 (0,0))) (by rfl) rfl ⟨_,by first | (go_simp; done) | (go_simp; rfl),Wi H.out BB.out HW3.out Xu.out zD.out,(Below.heap_setCell w3 ⟨gp,18,none⟩ _ w.heap.size (by have:=AQ H.out.blk; show w.heap.size ≠ gp; omega)).trans hHeld.2⟩ (fun w4 hF => ?_)
 have HF:=Lib.hid hF
 clear hF hz1 hz2 hHeld
 refine hK.out _ _ ?_
 clear hK K
 refine BG (by kernel_rfl) ?_
 go_wp2
 go_end0
 rw [HXX.out]
 exact ⟨rfl,HF.out.1⟩
theorem Oz {w:World} {B gp:Nat} {ge:Nat → Nat} {own:Nat → Nat → Prop} {X:Pr} {lv:Nat → Value} {wv:Value} (h:Dj w B gp ge own X lv wv):Calls Try.prog 43 #[.pointer (some ⟨gp,0,none⟩)] w fun e w' => e = .returned (.int .i64 X.way.length) ∧ w = w':=by
 obtain ⟨A,c,_,hv,_⟩:=h.way.reads
 subst hv
 have hc:w.cell? ⟨gp,18,none⟩ = some (.slice A X.way.length c):=(AA h.blk 18).trans rfl
 clear h
 go_enter Try.func43,Try.ntmps43
 go_wp2
 all_goals (go_ret; exact ⟨rfl,rfl⟩)
theorem LQ (w:World) (gp s:Nat) (hs:s < 2):Calls Try.prog 81 #[.pointer (some ⟨gp,0,none⟩),.int .i64 s] w fun e w' => e = .returned (.bool true) ∧ w = w':=by
 have h0:s = 0 ∨ s = 1:=by omega
 rcases h0 with rfl | rfl
 all_goals
  go_enter Try.func81,Try.ntmps81
  go_wp2
  all_goals (go_ret; exact ⟨rfl,rfl⟩)
theorem VT {w:World} {B gp:Nat} {ge:Nat → Nat} {own:Nat → Nat → Prop} {X:Pr} {lv:Nat → Value} {wv:Value} (h:Dj w B gp ge own X lv wv) (s:Nat) (hs:s < 2):Calls Try.prog 40 #[.pointer (some ⟨gp,0,none⟩),.int .i64 s] w fun e w' => e = .returned (.int .i64 (X.sd s).end_.phase) ∧ w = w':=by
 have h0:s = 0 ∨ s = 1:=by omega
 have hc0:w.cell? ⟨gp,0,none⟩ = some (.pointer (some ⟨ge 0,0,none⟩)):=(AA h.blk 0).trans rfl
 have Bh:w.cell? ⟨gp,9,none⟩ = some (.pointer (some ⟨ge 1,0,none⟩)):=(AA h.blk 9).trans rfl
 have H:=Lib.hid h
 clear h hs
 rcases h0 with rfl | rfl
 ·go_enter Try.func40,Try.ntmps40
  go_wp2_with (first | (go_at_call 81; (have hc:=LQ w gp 0 (by decide)); rw [show ((0:Nat):Int) = 0 from rfl] at hc; (with_reducible refine hc.mono ?_); clear hc; rintro e w9 ⟨rfl,rfl⟩) | (go_at_call 29; (have hc:=phase_end (H.out.e 0 (by decide))); (with_reducible refine hc.mono ?_); clear hc; rintro e w9 ⟨rfl,rfl⟩))
  all_goals (go_ret; exact ⟨rfl,rfl⟩)
 ·go_enter Try.func40,Try.ntmps40
  go_wp2_with (first | (go_at_call 81; (have hc:=LQ w gp 1 (by decide)); rw [show ((1:Nat):Int) = 1 from rfl] at hc; (with_reducible refine hc.mono ?_); clear hc; rintro e w9 ⟨rfl,rfl⟩) | (go_at_call 29; (have hc:=phase_end (H.out.e 1 (by decide))); (with_reducible refine hc.mono ?_); clear hc; rintro e w9 ⟨rfl,rfl⟩))
  all_goals (go_ret; exact ⟨rfl,rfl⟩)
theorem bG:Try.prog.elem 141 = 150:=by kernel_rfl
theorem VU (W:World):(sizeOf (Try.prog.elem 141)).run Try.prog W = .ok 12 W:=by
 rw [bG]
 obtain ⟨i0,hi0,_,hsz,_⟩:=info_parts P5
 go_simp
theorem Wj (A:Option Addr) (n c i:Nat) (hi:i ≤ n) (hc:n ≤ c) (W:World):(Instr.slice 141 (.slice A n c) none (some (.int .i64 (i:Int))) (some (.int .i64 (i:Int)))).run Try.prog W = .ok (.slice A i i) W:=by
 have hu:Try.prog.underlying 141 = some (.slice (Try.prog.elem 141)):=by kernel_rfl
 have e:=run_slice_hm (P:=Try.prog) W 141 A n c hu IntKind.i64 IntKind.i64 (i:Int) (i:Int) (by omega) (by omega) (by omega)
 rw [e,VU]
 have:(if i = 0 then A else A.map (·.add (0 * 12))) = A:=by
  split
  ·rfl
  ·cases A with
   | none => rfl
   | some a => first | rfl | (show some (a.add (0 * 12)) = some a; rw [Nat.zero_mul]; congr 1; unfold Addr.add; cases a; simp; done) | (show some (a.add (0 * 12)) = some a; rw [Nat.zero_mul]; congr 1; unfold Addr.add; cases a; rfl) | simp [Addr.add]
 show Result.ok (Value.slice (if (i:Int).toNat = 0 then A else A.map (·.add (0 * 12))) ((i:Int).toNat - 0) ((i:Int).toNat - 0)) W = _
 rw [Int.toNat_natCast,this]
 rfl
theorem UO (A:Option Addr) (n c i:Nat) (hi:i < n) (hc:n ≤ c) (W:World):(Instr.slice 141 (.slice A n c) (some (.int .i64 ((i:Int) + 1))) none none).run Try.prog W = .ok (.slice (if c = i + 1 then A else A.map (·.add ((i + 1) * 12))) (n - (i + 1)) (c - (i + 1))) W:=by
 have hu:Try.prog.underlying 141 = some (.slice (Try.prog.elem 141)):=by kernel_rfl
 have e:=run_slice_l (P:=Try.prog) W 141 A n c hu IntKind.i64 ((i:Int) + 1) (by omega) (by omega)
 rw [e,VU]
 have h1:((i:Int) + 1).toNat = i + 1:=by omega
 show Result.ok (Value.slice (if c = ((i:Int) + 1).toNat then A else A.map (·.add (((i:Int) + 1).toNat * 12))) (n - ((i:Int) + 1).toNat) (c - ((i:Int) + 1).toNat)) W = _
 rw [h1]
def DI:Fl:=⟨0,0,Oe⟩
theorem qx (i:Nat) (hi:i < 1000000):IntKind.i64.wrap ((i:Int) + 1) = (i:Int) + 1:=by rw [IntKind.wrap_i64]; omega
theorem Dj.kept {w w':World} {B gp:Nat} {ge:Nat → Nat} {own:Nat → Nat → Prop} {X:Pr} {lv:Nat → Value} {wv:Value} {S:Nat → Prop} (h:Dj w B gp ge own X lv wv) (hk:Kept w w' S) (hg:¬ S gp) (hd:∀ i k,own i k → ¬ S k):Dj w' B gp ge own X lv wv :=
 ⟨Ap h.blk hk hg,h.low,h.Hl,h.EF,fun i k hx => Nat.lt_of_lt_of_le (h.lt i k hx) hk.1,fun s hs => (h.e s hs).kept hk (hd _),fun s hs => Kd.BJ (h.l s hs) hk (hd _),h.way.kept hk (hd _)⟩
theorem KW {w:World} {B gp:Nat} {ge:Nat → Nat} {own:Nat → Nat → Prop} {X:Pr} {lv:Nat → Value} {wv:Value} (h:Dj w B gp ge own X lv wv) (i:Nat) (hi:i < X.way.length) (Fh:X.way.length ≤ 1024) :
  Calls Try.prog 128 #[.pointer (some ⟨gp,0,none⟩),.int .i64 (i:Int)] w fun e w' => ∃ b,e = .returned (.agg (FV (X.way.getD i DI) b).toArray) ∧ (Kd.int .u8).R 5 w' B (own 5) b (X.way.getD i DI).p.body ∧ Moves w B gp ge own { X with way:=X.way.eraseIdx i } (fun k => k = gp) w':=by
 obtain ⟨g,off,cw,cs,hv,hcl,hM,hg,hcell⟩:=h.way.elem DI i hi
 subst hv
 obtain ⟨b,hcs,hR⟩:=YR.1 hM
 subst hcs
 generalize X.way.getD i DI = f at *
 obtain ⟨Ab,cb,hb⟩:=Kd.Am hR
 subst hb
 obtain ⟨_,_,_,hvv,hlc,_⟩:=h.way.reads
 injection hvv with hv1 hv2 hv3
 subst hv3
 clear hv1 hv2 hM hcl
 have hba:Below w.heap.size w (w.alloc (.cells #[.int .i64 0,.int .u32 0,.int .i64 0,.int .u32 0,.int .u32 0,.int .u32 0,.int .u32 0,.int .u32 0,.int .u32 0,.int .u32 0,.complex .f64 0 0,.slice none 0 0] 150)):=(Below.refl _ _).alloc (Nat.le_refl _) _
 have HC2:=Lib.hid (show Below w.heap.size w (w.alloc (.cells #[.int .i64 0,.int .u32 0,.int .i64 0,.int .u32 0,.int .u32 0,.int .u32 0,.int .u32 0,.int .u32 0,.int .u32 0,.int .u32 0,.complex .f64 0 0,.slice none 0 0] 150)) from hba)
 have hc18:(w.alloc (.cells #[.int .i64 0,.int .u32 0,.int .i64 0,.int .u32 0,.int .u32 0,.int .u32 0,.int .u32 0,.int .u32 0,.int .u32 0,.int .u32 0,.complex .f64 0 0,.slice none 0 0] 150)).cell? ⟨gp,18,none⟩ = some (.slice (some ⟨g,off,none⟩) X.way.length _):=(AA (h.sub hba).blk 18).trans rfl
 have Qk:=Lib.hid (show (w.alloc (.cells #[.int .i64 0,.int .u32 0,.int .i64 0,.int .u32 0,.int .u32 0,.int .u32 0,.int .u32 0,.int .u32 0,.int .u32 0,.int .u32 0,.complex .f64 0 0,.slice none 0 0] 150)).rangeAt g (off + i * 12) (FV f (.slice Ab f.p.body.length cb)) from fun j u hu => cell_kept (hcell j u hu) (Kept.of_below hba (fun _ => False)) (fun x => x))
 have H:=Lib.hid h
 have HR:=Lib.hid hR
 have HI:=Lib.hid hi
 have qy:=Lib.hid hlc
 have HZ:=Lib.hid (heap_alloc_new w (.cells #[.int .i64 0,.int .u32 0,.int .i64 0,.int .u32 0,.int .u32 0,.int .u32 0,.int .u32 0,.int .u32 0,.int .u32 0,.int .u32 0,.complex .f64 0 0,.slice none 0 0] 150))
 clear h hR hcell hlc hba
 generalize hwl:X.way.length = n at *
 have ni:=Lib.hid hwl
 clear hwl
 go_enter Try.func128,Try.ntmps128
 go_wp2_with (first | ((with_reducible refine AO (N:=12) rfl ?_); (refine wpList_load_mid rfl 150 (.tmp 11) rfl g (off + i * 12) (by first | rfl | (simp; done)) (FV f (.slice Ab f.p.body.length cb)) _ Qk.out Try.underlying150 rfl (by kernel_rfl) ?_)) | ((with_reducible refine gate_ (.store 150 (.tmp 5) (.tmp 12)) rfl ?_); (refine Ad rfl rfl 150 (.tmp 5) (.tmp 12) rfl (w.alloc (.cells #[.int .i64 0,.int .u32 0,.int .i64 0,.int .u32 0,.int .u32 0,.int .u32 0,.int .u32 0,.int .u32 0,.int .u32 0,.int .u32 0,.complex .f64 0 0,.slice none 0 0] 150)).heap.size #[.int .i64 f.dst,.int .u32 f.AB,.int .i64 f.p.kind,.int .u32 f.p.mine,.int .u32 f.p.AB,.int .u32 f.p.yours,.int .u32 f.p.seq,.int .u32 f.p.AV,.int .u32 f.p.stamp,.int .u32 f.p.echo,.complex .f64 f.p.zr f.p.zi,.slice Ab f.p.body.length cb] (by first | (show Value.pointer (some ⟨w.heap.size + 1,0,none⟩) = _; simp; done) | (simp; rfl)) rfl 150 _ (heap_alloc_new (w.alloc (.cells #[.int .i64 0,.int .u32 0,.int .i64 0,.int .u32 0,.int .u32 0,.int .u32 0,.int .u32 0,.int .u32 0,.int .u32 0,.int .u32 0,.complex .f64 0 0,.slice none 0 0] 150)) _) (by kernel_rfl) rfl (by kernel_rfl) ?_); (intro w2 hb5 Wl); (have FN:=Lib.hid hb5); (have FP:=Lib.hid (Wl.below ((Below.refl (w.alloc (.cells #[.int .i64 0,.int .u32 0,.int .i64 0,.int .u32 0,.int .u32 0,.int .u32 0,.int .u32 0,.int .u32 0,.int .u32 0,.int .u32 0,.complex .f64 0 0,.slice none 0 0] 150)).heap.size (w.alloc (.cells #[.int .i64 0,.int .u32 0,.int .i64 0,.int .u32 0,.int .u32 0,.int .u32 0,.int .u32 0,.int .u32 0,.int .u32 0,.int .u32 0,.complex .f64 0 0,.slice none 0 0] 150))).alloc (Nat.le_refl _) _) (Nat.le_refl _))); (have hsz5:=Wl.size); (clear hb5 Wl)))
 have hbd0:Below w.heap.size w w2:=HC2.out.trans (FP.out.mono HC2.out.size)
 have hz2:w2.heap.size = w.heap.size + 2:=by simpa using hsz5
 have hr4:w2.heap[w.heap.size]? = some (.cells #[.int .i64 0,.int .u32 0,.int .i64 0,.int .u32 0,.int .u32 0,.int .u32 0,.int .u32 0,.int .u32 0,.int .u32 0,.int .u32 0,.complex .f64 0 0,.slice none 0 0] 150 (0,0)):=(FP.out.block w.heap.size (by simp)).trans HZ.out
 have hr5:w2.heap[w.heap.size + 1]? = some (.cells #[.int .i64 f.dst,.int .u32 f.AB,.int .i64 f.p.kind,.int .u32 f.p.mine,.int .u32 f.p.AB,.int .u32 f.p.yours,.int .u32 f.p.seq,.int .u32 f.p.AV,.int .u32 f.p.stamp,.int .u32 f.p.echo,.complex .f64 f.p.zr f.p.zi,.slice Ab f.p.body.length cb] 150 (0,0)):=by have:=FN.out; rw [show (w.alloc (.cells #[.int .i64 0,.int .u32 0,.int .i64 0,.int .u32 0,.int .u32 0,.int .u32 0,.int .u32 0,.int .u32 0,.int .u32 0,.int .u32 0,.complex .f64 0 0,.slice none 0 0] 150)).heap.size = w.heap.size + 1 by simp] at this; exact this
 have hSS:w2.drew.heap[gp]? = some (.cells (BK X ge lv (.slice (some ⟨g,off,none⟩) n cw)) 143 (0,0)) ∧ w2.drew.heap[w.heap.size]? = some (.cells #[.int .i64 0,.int .u32 0,.int .i64 0,.int .u32 0,.int .u32 0,.int .u32 0,.int .u32 0,.int .u32 0,.int .u32 0,.int .u32 0,.complex .f64 0 0,.slice none 0 0] 150 (0,0)) ∧ w2.drew.heap[w.heap.size + 1]? = some (.cells #[.int .i64 f.dst,.int .u32 f.AB,.int .i64 f.p.kind,.int .u32 f.p.mine,.int .u32 f.p.AB,.int .u32 f.p.yours,.int .u32 f.p.seq,.int .u32 f.p.AV,.int .u32 f.p.stamp,.int .u32 f.p.echo,.complex .f64 f.p.zr f.p.zi,.slice Ab f.p.body.length cb] 150 (0,0)):=⟨(H.out.sub hbd0).blk,hr4,hr5⟩
 have hbd:=AZ hbd0
 have hsz:=(show w2.drew.heap.size = w.heap.size + 2 from hz2)
 have HI2:=Lib.hid (show i < n from HI.out)
 obtain ⟨A7,Pq⟩:∃ A,A = (if cw = i + 1 then some (⟨g,off,none⟩:Addr) else (some (⟨g,off,none⟩:Addr)).map (·.add ((i + 1) * 12))):=⟨_,rfl⟩
 have hwr:IntKind.i64.wrap ((i:Int) + 1) = (i:Int) + 1:=qx i (by have:=HI.out; omega)
 have hsf:∀ W:World,(Instr.slice 141 (.slice (some ⟨g,off,none⟩) n cw) (some (.int .i64 (IntKind.i64.wrap ((i:Int) + 1)))) none none).run Try.prog W = .ok (.slice A7 (n - (i + 1)) (cw - (i + 1))) W:=fun W => by rw [hwr,Pq]; exact UO (some ⟨g,off,none⟩) n cw i HI.out qy.out W
 clear hwr
 have HSF:=Lib.hid hsf
 have ay:=Lib.hid Pq
 have Ik:=Lib.hid (fun W => Wj (some ⟨g,off,none⟩) n cw i (Nat.le_of_lt HI.out) qy.out W)
 have HN:=Lib.hid Fh
 clear hc18 hsz5 hbd0 hz2 hr4 hr5 FP FN HZ HC2 hsf Pq Fh
 refine BA (n:=19) (S:=fun w' => w'.heap[gp]? = some (.cells (BK X ge lv (.slice (some ⟨g,off,none⟩) n cw)) 143 (0,0)) ∧ w'.heap[w.heap.size]? = some (.cells #[.int .i64 0,.int .u32 0,.int .i64 0,.int .u32 0,.int .u32 0,.int .u32 0,.int .u32 0,.int .u32 0,.int .u32 0,.int .u32 0,.complex .f64 0 0,.slice none 0 0] 150 (0,0)) ∧ w'.heap[w.heap.size + 1]? = some (.cells #[.int .i64 f.dst,.int .u32 f.AB,.int .i64 f.p.kind,.int .u32 f.p.mine,.int .u32 f.p.AB,.int .u32 f.p.yours,.int .u32 f.p.seq,.int .u32 f.p.AV,.int .u32 f.p.stamp,.int .u32 f.p.echo,.complex .f64 f.p.zr f.p.zi,.slice Ab f.p.body.length cb] 150 (0,0))) (ds:=[18]) oN (by kernel_rfl) rfl rfl (hSS) (fun hHeld => ?_)
 generalize w2.drew = w3 at hbd hsz hHeld ⊢
 have BB:=Lib.hid hbd
 have OU:=Lib.hid hsz
 clear hbd hsz
 refine pu 0 13 oO ?_
 refine pu 1 14 oP ?_
 refine pu 2 15 oQ ?_
 refine pu 3 16 oU ?_
 refine tk 4 17 oV hHeld ?_ (hf:=by intro w' s0; have hc18:w'.cell? ⟨gp,18,none⟩ = some (.slice (some ⟨g,off,none⟩) n cw):=(AA s0.1 18).trans rfl; clear s0; go_simp; with_reducible rfl)
 refine pu 5 18 oW ?_
 refine pu 6 19 oZ ?_
 refine pu 7 20 og ?_ (hy:=by intro w'; have hsc:=Ik.out w'; go_simp; rfl)
 refine pu 8 21 oh ?_
 refine pu 9 22 ou ?_
 refine pu 10 23 oz ?_
 refine tk 11 24 o5 hHeld ?_ (hf:=by intro w' s0; have hc18:w'.cell? ⟨gp,18,none⟩ = some (.slice (some ⟨g,off,none⟩) n cw):=(AA s0.1 18).trans rfl; clear s0; go_simp; with_reducible rfl)
 refine pu 12 25 o6 ?_
 refine pu 13 26 o7 ?_ (hy:=by intro w'; have hi1:=HI2.out; have hi2:=HN.out; go_simp; rfl)
 refine pu 14 27 o8 ?_ (hy:=by intro w'; have hsc:=HSF.out w'; go_simp; rfl)
 refine on 15 (some 28) o9 fun K hK => ?_
 have hQ2:=H.out.sub BB.out
 obtain ⟨v1,w4,hrun,hW,hBl⟩:=Fg.cut (P:=Try.prog) (d:=TC) 141 141 (.agg #[.int .i64 0,.int .u32 0,.int .i64 0,.int .u32 0,.int .u32 0,.int .u32 0,.int .u32 0,.int .u32 0,.int .u32 0,.int .u32 0,.complex .f64 0 0,.slice none 0 0]) 96 Try.underlying141 P5 rfl (by decide) (by rw [ni.out]; exact hQ2.way) hQ2.hB i (by rw [ni.out]; exact HI.out) (by rw [ni.out]; have:=HN.out; omega)
 obtain ⟨A1,c1,_,hv1,_⟩:=hW.reads
 generalize (X.way.eraseIdx i).length = n1 at hv1
 subst hv1
 rw [ni.out,show (i + 1) * Kd.sz TC = (i + 1) * 12 from rfl,← ay.out] at hrun
 have jC:w4.heap[gp]? = some (.cells (BK X ge lv (.slice (some ⟨g,off,none⟩) n cw)) 143 (0,0)):=(hBl.block gp (AQ hHeld.1)).trans hHeld.1
 have hY4:=(hBl.block w.heap.size (AQ hHeld.2.1)).trans hHeld.2.1
 have hZ4:=(hBl.block (w.heap.size + 1) (AQ hHeld.2.2)).trans hHeld.2.2
 refine Lt (P:=Try.prog) (w1:=w4) (v:=.slice (some ⟨g,off,none⟩) i i) ?hw (.tmp 20) (.tmp 27) 141 ?ho (.slice A7 (n - (i + 1)) (cw - (i + 1))) (.slice A1 n1 c1) ?hs ?hx ?hr ?hk
 case hw => rfl
 case ho => rfl
 case hs => rfl
 case hx => rfl
 case hr => exact hrun
 have VM:=Lib.hid jC
 have HW4:=Lib.hid hW
 have HB4:=Lib.hid hBl
 have HQ2:=Lib.hid hQ2
 clear hrun hW hBl hQ2 hHeld
 refine hK.out _ _ ⟨jC,hY4,hZ4⟩ (fun hHeld => ?_)
 clear hK K jC hY4 hZ4
 refine nm 28 ?_
 refine pu 16 29 pF ?_
 refine pu 17 30 pG ?_
 refine la 18 none pI fun K hK => ?_
 have hz1:w4.cell? ⟨gp,18,none⟩ = some (.slice (some ⟨g,off,none⟩) n cw):=(AA VM.out 18).trans rfl
 have hz2:=AL VM.out 18
 refine CG (fun wz => Dj wz B gp ge (grow own 5 w3 w4) { X with way:=X.way.eraseIdx i } lv (.slice A1 n1 c1) ∧ Kept w wz (fun k => k = gp) ∧ Below B w wz ∧ wz.heap[w.heap.size]? = some (.cells #[.int .i64 0,.int .u32 0,.int .i64 0,.int .u32 0,.int .u32 0,.int .u32 0,.int .u32 0,.int .u32 0,.int .u32 0,.int .u32 0,.complex .f64 0 0,.slice none 0 0] 150 (0,0)) ∧ wz.heap[w.heap.size + 1]? = some (.cells #[.int .i64 f.dst,.int .u32 f.AB,.int .i64 f.p.kind,.int .u32 f.p.mine,.int .u32 f.p.AB,.int .u32 f.p.yours,.int .u32 f.p.seq,.int .u32 f.p.AV,.int .u32 f.p.stamp,.int .u32 f.p.echo,.complex .f64 f.p.zr f.p.zi,.slice Ab f.p.body.length cb] 150 (0,0))) (by rfl) rfl ⟨_,by first | (go_simp; done) | (go_simp; rfl),HQ2.out.YS (Kept.of_below HB4.out _) HW4.out,?_,?_,?_,?_⟩ (fun w5 hF => ?_)
 ·exact Kept.setCell (S:=fun k => k = gp) (p:=⟨gp,18,none⟩) (Kept.of_below (BB.out.trans (HB4.out.mono BB.out.size)) _) (.inl rfl) _
 ·exact ((BB.out.trans (HB4.out.mono BB.out.size)).mono H.out.hB).setCell (p:=⟨gp,18,none⟩) H.out.low _
 ·exact (Below.heap_setCell w4 ⟨gp,18,none⟩ _ w.heap.size (by have:=AQ H.out.blk; show w.heap.size ≠ gp; omega)).trans hHeld.2.1
 ·exact (Below.heap_setCell w4 ⟨gp,18,none⟩ _ (w.heap.size + 1) (by have:=AQ H.out.blk; show w.heap.size + 1 ≠ gp; omega)).trans hHeld.2.2
 have HF:=Lib.hid hF
 clear hF hz1 hz2 hHeld
 refine hK.out _ _ ?_
 clear hK K
 refine BG (by kernel_rfl) ?_
 go_wp2_with (first | ((with_reducible refine AO (N:=31) rfl ?_); (refine wpList_load_row rfl 150 (.tmp 5) rfl (w.heap.size + 1) (by rfl) 150 _ (0,0) _ HF.out.2.2.2.2 Try.underlying150 rfl (by kernel_rfl) ?_)) | ((with_reducible refine gate_ (.store 150 (.tmp 4) (.tmp 31)) rfl ?_); (refine Ad rfl rfl 150 (.tmp 4) (.tmp 31) rfl w.heap.size #[.int .i64 f.dst,.int .u32 f.AB,.int .i64 f.p.kind,.int .u32 f.p.mine,.int .u32 f.p.AB,.int .u32 f.p.yours,.int .u32 f.p.seq,.int .u32 f.p.AV,.int .u32 f.p.stamp,.int .u32 f.p.echo,.complex .f64 f.p.zr f.p.zi,.slice Ab f.p.body.length cb] rfl rfl 150 _ HF.out.2.2.2.1 (by kernel_rfl) rfl (by kernel_rfl) ?_); (intro w6 hb6 rC); (have IE:=Lib.hid hb6); (have jZ:=Lib.hid rC); (clear hb6 rC)))
 refine bodyPost_ret (v:=.agg #[.int .i64 f.dst,.int .u32 f.AB,.int .i64 f.p.kind,.int .u32 f.p.mine,.int .u32 f.p.AB,.int .u32 f.p.yours,.int .u32 f.p.seq,.int .u32 f.p.AV,.int .u32 f.p.stamp,.int .u32 f.p.echo,.complex .f64 f.p.zr f.p.zi,.slice Ab f.p.body.length cb]) ?_ rfl ?_
 ·exact Go.Proofs.Ytnkkgofpifhoeaa.Pk.results_cell rfl _ _ rfl (run_loadVar_row (P:=Try.prog) w6 w.heap.size 150 150 _ (0,0) _ IE.out Try.underlying150 rfl (by kernel_rfl))
 ·have hgl:=AQ H.out.blk
  have hk6:=HF.out.2.1.BQ (Dx jZ.out) (fun k hk => .inr (by omega))
  refine ⟨.slice Ab f.p.body.length cb,rfl,Kd.BJ HR.out hk6 (fun k hx hy => H.out.Hl 5 (hy ▸ hx)),⟨_,lv,_,HF.out.1.kept (Dx jZ.out) (by omega) (fun j k hx hy => ?_),Grew.grow _ BB.out.size,hk6,jZ.out.below HF.out.2.2.1 H.out.hB⟩⟩
  rcases hx with hx | hx
  ·have:=H.out.lt j k hx; omega
  ·have:=OU.out; omega
end Go.Proofs.Ytnkkgofpifhoeaa.Pr
end
section
namespace Go.Proofs.Ytnkkgofpifhoeaa.Pr
open Go.RowKit Go.Proofs.Ytnkkgofpifhoeaa.Base Go.Proofs.Ytnkkgofpifhoeaa.Lk Go.Proofs.Ytnkkgofpifhoeaa.Fg Go.Proofs.YtnkkgofpifhoeaaW.PrintWords
theorem O0 {w:World} {B g:Nat} {own:Nat → Prop} {L:Lk} (h:Lk.End w B own g L):Calls Try.prog 32 #[.pointer (some ⟨g,0,none⟩)] w fun e w' => ∃ o JP own',e = .returned o ∧ Lk.End w' B own' g (Fq L) ∧ (∀ k,own' k → own k ∧ ¬ JP k) ∧ pkt.R 27 w' B JP o L.out ∧ (∀ k,JP k → own k) ∧ Kept w w' (fun k => k = g) ∧ w'.heap.size = w.heap.size ∧ Below B w w' ∧ own g:=by
 obtain ⟨Ak,Aj,_,o,h,ho⟩:=h
 refine (jE h).mono fun e w' hq => ⟨o,Aj,fun k => own k ∧ ¬ Aj k,hq.1,⟨_,_,_,_,hq.2.1,fun k hk => ?_⟩,fun k hk => hk,hq.2.2.1,fun k hk => ho k (.inr (.inl hk)),Dx hq.2.2.2,hq.2.2.2.size,hq.2.2.2.below (Below.refl _ _) h.low,ho g (.inr (.inr rfl))⟩
 rcases hk with hk | hk | hk
 ·exact ⟨ho k (.inl hk),h.apart k hk⟩
 ·exact hk.elim
 ·subst hk
  exact ⟨ho _ (.inr (.inr rfl)),fun hx => (h.old _ (.inr hx)).2 rfl⟩
def handed (own:Nat → Nat → Prop) (s:Nat) (own' JP:Nat → Prop):Nat → Nat → Prop:=fun j k => (j = 1 + s ∧ own' k) ∨ (j ≠ 1 + s ∧ own j k) ∨ (j = 5 ∧ JP k)
theorem Dj.took {w w':World} {B gp:Nat} {ge:Nat → Nat} {own:Nat → Nat → Prop} {X:Pr} {lv:Nat → Value} {wv:Value} (h:Dj w B gp ge own X lv wv) {s:Nat} (hs:s < 2) {own' JP:Nat → Prop} (he:Lk.End w' B own' (ge s) (Fq (X.sd s).end_)) (ho:∀ k,own' k → own (1 + s) k ∧ ¬ JP k)
  (hx:∀ k,JP k → own (1 + s) k) (hk:Kept w w' (fun k => k = ge s)) (hg:own (1 + s) (ge s)) (hz:w'.heap.size = w.heap.size):Dj w' B gp ge (handed own s own' JP) (X.set s { X.sd s with end_:=Fq (X.sd s).end_ }) lv wv:=by
 have hrow:BK (X.set s { X.sd s with end_:=Fq (X.sd s).end_ }) ge lv wv = BK X ge lv wv:=by
  have h0:s = 0 ∨ s = 1:=by omega
  rcases h0 with rfl | rfl <;> rfl
 have hne:∀ j k,j ≠ 1 + s → own j k → ¬ k = ge s:=fun j k hj ho he => hj (h.EF j (1 + s) k ho (he ▸ hg))
 refine ⟨hrow ▸ Ap h.blk hk (fun he => h.Hl (1 + s) (he ▸ hg)),h.low,fun i hi => ?_,fun i j k hi hj => ?_,fun i k hi => ?_,fun t ht => ?_,fun t ht => ?_,?_⟩
 ·rcases hi with hi | hi | hi
  ·exact h.Hl _ (ho _ hi.2).1
  ·exact h.Hl _ hi.2
  ·exact h.Hl _ (hx _ hi.2)
 ·rcases hi with hi | hi | hi <;> rcases hj with hj | hj | hj
  ·omega
  ·exact absurd (h.EF _ _ k (ho k hi.2).1 hj.2) (by omega)
  ·exact absurd hj.2 (ho k hi.2).2
  ·exact absurd (h.EF _ _ k hi.2 (ho k hj.2).1) (by omega)
  ·exact h.EF _ _ k hi.2 hj.2
  ·exact absurd (h.EF _ _ k hi.2 (hx k hj.2)) (by omega)
  ·exact absurd hi.2 (ho k hj.2).2
  ·exact absurd (h.EF _ _ k (hx k hi.2) hj.2) (by omega)
  ·omega
 ·rw [hz]
  rcases hi with hi | hi | hi
  ·exact h.lt _ k (ho k hi.2).1
  ·exact h.lt _ k hi.2
  ·exact h.lt _ k (hx k hi.2)
 ·by_cases hts:t = s
  ·subst hts
   rw [Pr.Ae]
   exact he.mono (fun k hk => .inl ⟨rfl,hk⟩)
  ·rw [Pr.BP X hts]
   exact ((h.e t ht).kept hk (hne _ · (by omega))).mono (fun k hk => .inr (.inl ⟨by omega,hk⟩))
 ·have:((X.set s { X.sd s with end_:=Fq (X.sd s).end_ }).sd t).log = (X.sd t).log:=by
   by_cases hts:t = s
   ·subst hts; rw [Pr.Ae]
   ·rw [Pr.BP X hts]
  rw [this]
  exact Kd.BV (Kd.BJ (h.l t ht) hk (hne _ · (by omega))) (fun k hk => .inr (.inl ⟨by omega,hk⟩))
 ·exact (h.way.kept hk (hne _ · (by omega))).mono (fun k hk => .inr (.inl ⟨by omega,hk⟩))
end Go.Proofs.Ytnkkgofpifhoeaa.Pr
end
section
namespace Go.Proofs.Ytnkkgofpifhoeaa.Pr
open Go.RowKit Go.Proofs.Ytnkkgofpifhoeaa.Base Go.Proofs.Ytnkkgofpifhoeaa.Steps Go.Proofs.Ytnkkgofpifhoeaa.Lk Go.Proofs.Ytnkkgofpifhoeaa.Fg Go.Proofs.YtnkkgofpifhoeaaW.PrintWords Go.Proofs.YtnkkgofpifhoeaaW.PrintLast
def Whole (w:World) (B gp:Nat) (U:Nat → Prop) (X:Pr):Prop:=∃ ge own lv wv,Dj w B gp ge own X lv wv ∧ ∀ i k,own i k → U k
def newer (U:Nat → Prop) (w:World):Nat → Prop:=fun k => U k ∨ w.heap.size ≤ k
def CS (w:World) (B gp:Nat) (U:Nat → Prop) (X:Pr) (w':World):Prop:=Whole w' B gp (newer U w) X ∧ Kept w w' (fun k => k = gp ∨ U k) ∧ Below B w w'
theorem Moves.whole {w w':World} {B gp:Nat} {ge:Nat → Nat} {own:Nat → Nat → Prop} {X:Pr} {S U:Nat → Prop} (hU:∀ i k,own i k → U k) (hS:∀ k,S k → k = gp ∨ U k) (h:Moves w B gp ge own X S w'):CS w B gp U X w':=by
 obtain ⟨own',lv,wv,hP,hg,hk,hb⟩:=h
 exact ⟨⟨ge,own',lv,wv,hP,fun i k hx => (hg.2 i k hx).elim (fun y => .inl (hU i k y)) .inr⟩,hk.mono hS,hb⟩
theorem Whole.hB {w:World} {B gp:Nat} {U:Nat → Prop} {X:Pr} (h:Whole w B gp U X):B ≤ w.heap.size:=by
 obtain ⟨_,_,_,_,hP,_⟩:=h
 exact hP.hB
theorem Whole.sub {w w1:World} {B gp:Nat} {U:Nat → Prop} {X:Pr} (h:Whole w B gp U X) (hb:Below w.heap.size w w1):Whole w1 B gp U X:=by
 obtain ⟨ge,own,lv,wv,hP,hU⟩:=h
 exact ⟨ge,own,lv,wv,hP.sub hb,hU⟩
theorem Whole.mono {w:World} {B gp:Nat} {U U':Nat → Prop} {X:Pr} (h:Whole w B gp U X) (hu:∀ k,U k → U' k):Whole w B gp U' X:=by
 obtain ⟨ge,own,lv,wv,hP,hU⟩:=h
 exact ⟨ge,own,lv,wv,hP,fun i k hx => hu k (hU i k hx)⟩
theorem CS.from_ {w w1 w':World} {B gp:Nat} {U:Nat → Prop} {X:Pr} (hB:B ≤ w.heap.size) (hb:Below w.heap.size w w1) (h:CS w1 B gp U X w'):CS w B gp U X w' :=
 ⟨h.1.mono (fun k hk => hk.elim .inl (fun y => .inr (Nat.le_trans hb.size y))),(Kept.of_below hb _).BQ h.2.1 (fun k hk => .inl hk),(hb.mono hB).trans h.2.2⟩
def DU (X:Pr) (s b:Int) (ps:List Bz):Pr:=ps.foldl (fun Y p => GU Y ⟨1 - s,b,p⟩) X
theorem MS (X:Pr) (f:Fl):(GU X f).sd = X.sd:=by unfold GU; split <;> rfl
theorem Yg (X:Pr) (f:Fl) (h:X.way.length ≤ 1024):(GU X f).way.length ≤ 1024:=by
 unfold GU
 split
 ·rw [List.length_append]; simp only [List.length_singleton]; omega
 ·exact h
theorem Gm (s b:Int) (ps:List Bz):∀ X:Pr,(DU X s b ps).sd = X.sd:=by
 induction ps with
 | nil => exact fun _ => rfl
 | cons p ps ih => exact fun X => (ih (GU X ⟨1 - s,b,p⟩)).trans (MS X _)
theorem FW (s b:Int) (ps:List Bz):∀ X:Pr,X.way.length ≤ 1024 → (DU X s b ps).way.length ≤ 1024:=by
 induction ps with
 | nil => exact fun _ h => h
 | cons p ps ih => exact fun X h => ih _ (Yg X _ h)
theorem Nh (X:Pr) (s b:Int) (ps:List Bz) (i:Nat) (hi:i < ps.length):DU X s b (ps.take (i + 1)) = GU (DU X s b (ps.take i)) ⟨1 - s,b,ps.getD i Oe⟩:=by
 unfold DU
 rw [List.take_add_one,List.foldl_append,List.getElem?_eq_getElem hi,List.getD_eq_getElem?_getD,List.getElem?_eq_getElem hi]
 rfl
def BC (X:Pr) (s:Nat):Pr:=DU (X.set s { X.sd s with end_:=Fq (X.sd s).end_ }) s (X.sd s).AB (X.sd s).end_.out
def PL (w:World) (B gp:Nat) (U:Nat → Prop) (X:Pr) (s:Nat) (b:Int) (o:Value) (ps:List Bz) (j:Nat) (wr:World):Prop :=
 ∃ ge own lv wv JP,Dj wr B gp ge own (DU X s b (ps.take j)) lv wv ∧ (∀ i k,own i k → newer U w k) ∧ (∀ k,JP k → own 5 k) ∧ pkt.R 27 wr B JP o ps ∧ Kept w wr (fun k => k = gp ∨ U k) ∧ Below B w wr
theorem PL.size {w wr:World} {B gp s j:Nat} {U:Nat → Prop} {X:Pr} {b:Int} {o:Value} {ps:List Bz} (h:PL w B gp U X s b o ps j wr):w.heap.size ≤ wr.heap.size:=by
 obtain ⟨_,_,_,_,_,_,_,_,_,hk,_⟩:=h
 exact hk.1
theorem Wp {w:World} {B:Nat} {ok:Nat → Prop} {o:Value} {ps:List Bz} (h:pkt.R 27 w B ok o ps):pkt.R 27 w B (fun k => ok k ∧ ¬ ∃ cells,w.heap[k]? = some (.cells cells 150 (0,0))) o ps:=by
 refine Kd.BV (Kd.Du h) (fun k hk => ⟨hk.1,?_⟩)
 obtain ⟨_,_,_,q,hq,cells',hc⟩:=hk
 rintro ⟨cells,hx⟩
 rw [hc] at hx
 injection hx with hx
 injection hx with _ hx _
 subst hx
 exact absurd hq (by decide)
theorem PL.step {w wr w1 w':World} {B gp s j:Nat} {U JP:Nat → Prop} {X:Pr} {b:Int} {o:Value} {ps:List Bz} {ge:Nat → Nat} {own:Nat → Nat → Prop} {lv:Nat → Value} {wv:Value} (hj:j < ps.length)
  (hP:Dj wr B gp ge own (DU X s b (ps.take j)) lv wv) (hU:∀ i k,own i k → newer U w k) (hx:∀ k,JP k → own 5 k) (hR:pkt.R 27 wr B JP o ps) (hk:Kept w wr (fun k => k = gp ∨ U k)) (hb:Below B w wr) (h1:Below wr.heap.size wr w1)
  (hM:Moves w1 B gp ge own (GU (DU X s b (ps.take j)) ⟨1 - s,b,ps.getD j Oe⟩) (fun k => k = gp ∨ own 5 k ∧ ∃ cells,w1.heap[k]? = some (.cells cells 150 (0,0))) w'):PL w B gp U X s b o ps (j + 1) w':=by
 obtain ⟨own',lv',wv',hP',hg,hk',hb'⟩:=hM
 have hs:=hk.1
 have hs1:=h1.size
 refine ⟨ge,own',lv',wv',fun k => JP k,by rw [Nh X s b ps j hj]; exact hP',fun i k hi => (hg.2 i k hi).elim (hU i k) (fun y => .inr (by omega)),fun k hk => hg.1 5 k (hx k hk),?_,?_,?_⟩
 ·exact Kd.BV (Kd.BJ (Wp (Kd.Ee hR h1)) hk' (fun k hk hS => by
   rcases hS with hS | hS
   ·exact hP.Hl 5 (hS ▸ hx k hk.1)
   ·exact hk.2 hS.2)) (fun k hk => hk.1)
 ·exact (hk.below h1).BQ hk' (fun k hS => by
   rcases hS with hS | hS
   ·exact .inl (.inl hS)
   ·rcases hU 5 k hS.1 with hu | hu
    ·exact .inl (.inr hu)
    ·exact .inr hu)
 ·exact (hb.trans (h1.mono hP.hB)).trans hb'
theorem PL.start {w wr w':World} {B gp s:Nat} {U own' JP:Nat → Prop} {X:Pr} {o:Value} {ge:Nat → Nat} {own:Nat → Nat → Prop} {lv:Nat → Value} {wv:Value} (hs:s < 2) (hP:Dj wr B gp ge own X lv wv) (hU:∀ i k,own i k → newer U w k) (hk:Kept w wr (fun k => k = gp ∨ U k)) (hb:Below B w wr)
  (he:Lk.End w' B own' (ge s) (Fq (X.sd s).end_)) (ho:∀ k,own' k → own (1 + s) k ∧ ¬ JP k) (hR:pkt.R 27 w' B JP o (X.sd s).end_.out) (hx:∀ k,JP k → own (1 + s) k) (hkp:Kept wr w' (fun k => k = ge s)) (hz:w'.heap.size = wr.heap.size) (hb':Below B wr w') (hg:own (1 + s) (ge s)) :
  PL w B gp U (X.set s { X.sd s with end_:=Fq (X.sd s).end_ }) s (X.sd s).AB o (X.sd s).end_.out 0 w':=by
 refine ⟨ge,handed own s own' JP,lv,wv,JP,hP.took hs he ho hx hkp hg hz,fun i k hi => ?_,fun k hk => .inr (.inr ⟨rfl,hk⟩),hR,hk.BQ hkp (fun k hS => ?_),hb.trans hb'⟩
 ·rcases hi with hi | hi | hi
  ·exact hU _ k (ho k hi.2).1
  ·exact hU _ k hi.2
  ·exact hU _ k (hx k hi.2)
 ·subst hS
  rcases hU _ _ hg with hu | hu
  ·exact .inl (.inr hu)
  ·exact .inr hu
theorem PL.end_ {w wr:World} {B gp s:Nat} {U:Nat → Prop} {X:Pr} {b:Int} {o:Value} {ps:List Bz} (h:PL w B gp U X s b o ps ps.length wr):CS w B gp U (DU X s b ps) wr:=by
 obtain ⟨ge,own,lv,wv,JP,hP,hU,_,_,hk,hb⟩:=h
 rw [List.take_of_length_le (Nat.le_refl _)] at hP
 exact ⟨⟨ge,own,lv,wv,hP,hU⟩,hk,hb⟩
theorem LU:(Try.prog.info? 67).map (fun i => (i.zero,i.size,i.bytes)) = some (some (.agg #[.int .i64 0,.int .u32 0,.int .u32 0,.int .u32 0,.int .u32 0,.slice none 0 0]),6,48):=by kernel_rfl
def Ci (d:Sd) (kind:Int) (body:List Int):Ei:=⟨kind,d.last.AB,d.last.mine,d.last.peer,d.last.yours,body⟩
def DZ (d:Sd) (kind:Int) (body:List Int):Sd:={ d with log:=d.log ++ [Ci d kind body] }
theorem KX {w:World} {B:Nat} {CY ok:Nat → Prop} {x:Ei} {cs:List Value} {o:Value} {xs:List Ei} (hM:Fb.M w B CY x cs) (ho:Fb.R 67 w B ok o xs):Fb.M w B (fun k => CY k ∧ some k ≠ o.ownBlock) x cs:=by
 refine Fb.BU (fun k hk => ?_) (Fb.CW hM)
 obtain ⟨h1,_,_,t,ht,c,hc⟩:=hk
 refine ⟨h1,fun he => ?_⟩
 obtain ⟨_,inner,ho2,_⟩:=ho
 obtain ⟨c2,hc2⟩:=FO ho2 k he.symm
 rw [hc] at hc2
 injection hc2 with hc2
 injection hc2 with _ hc2 _
 subst hc2
 rw [qZ] at ht
 exact absurd ht (by decide)
theorem LV {w:World} {B gp:Nat} {ge:Nat → Nat} {own:Nat → Nat → Prop} {X:Pr} {lv:Nat → Value} {wv:Value} (h:Dj w B gp ge own X lv wv) (kind:Int) (body:List Int) (Ab:Option Addr) (cb:Nat) (hC:(Kd.int .u8).C w Ab body.length body) (hbl:body.length ≤ 1000000) (hll:(X.sd 0).log.length ≤ 1000000) :
  Calls Try.prog 127 #[.pointer (some ⟨gp,0,none⟩),.int .i64 kind,.slice Ab body.length cb] w fun e w' => e = .returned (.tuple #[]) ∧ Moves w B gp ge own (X.set 0 (DZ (X.sd 0) kind body)) (fun k => k = gp ∨ own 3 k) w':=by
 obtain ⟨Al,cl,hlv⟩:=Kd.Am (h.l 0 (by decide))
 have H:=Lib.hid h
 have HC:=Lib.hid hC
 have FP:=Lib.hid hbl
 have Gv:=Lib.hid hll
 have Yh:=Lib.hid hlv
 have Qk:=Lib.hid (show w.rangeAt gp 3 [.int .i64 (X.sd 0).last.kind,.int .u32 (X.sd 0).last.AB,.int .u32 (X.sd 0).last.mine,.int .u32 (X.sd 0).last.peer,.int .u32 (X.sd 0).last.yours,.slice none 0 0] from fun j u hu => by
  have hb:w.cell? ⟨gp,3 + j,none⟩ = (BK X ge lv wv)[3 + j]?:=AA h.blk _
  rw [hb]
  match j,hu with
  | 0,hu => exact hu
  | 1,hu => exact hu
  | 2,hu => exact hu
  | 3,hu => exact hu
  | 4,hu => exact hu
  | 5,hu => exact hu
  | n + 6,hu => exact absurd hu (by simp))
 clear h hC hbl hll hlv
 generalize hnb:body.length = nb at *
 have Ez:=Lib.hid hnb
 clear hnb
 go_enter Try.func127,Try.ntmps127
 go_wp2_with (first | ((with_reducible refine AO (N:=10) rfl ?_); (refine wpList_load_mid rfl 67 (.tmp 9) rfl gp 3 (by first | rfl | (simp; done)) [.int .i64 (X.sd 0).last.kind,.int .u32 (X.sd 0).last.AB,.int .u32 (X.sd 0).last.mine,.int .u32 (X.sd 0).last.peer,.int .u32 (X.sd 0).last.yours,.slice none 0 0] _ Qk.out Try.underlying67 rfl (by kernel_rfl) ?_)) | ((with_reducible refine gate_ (.store 67 (.tmp 6) (.tmp 10)) rfl ?_); (refine Ad rfl rfl 67 (.tmp 6) (.tmp 10) rfl w.heap.size #[.int .i64 (X.sd 0).last.kind,.int .u32 (X.sd 0).last.AB,.int .u32 (X.sd 0).last.mine,.int .u32 (X.sd 0).last.peer,.int .u32 (X.sd 0).last.yours,.slice none 0 0] rfl rfl 67 _ (heap_alloc_new w _) (by kernel_rfl) rfl (by kernel_rfl) ?_); (intro w1 hb1 Hr); (have HB1:=Lib.hid hb1); (have Pz:=Lib.hid (Hr.below ((Below.refl w.heap.size w).alloc (Nat.le_refl _) _) (Nat.le_refl _))); (clear hb1 Hr)) | ((with_reducible refine gate_ (.store 3 (.tmp 12) (.tmp 11)) rfl ?_); (refine AU (fun wz => wz.heap[w.heap.size]? = some (.cells #[.int .i64 kind,.int .u32 (X.sd 0).last.AB,.int .u32 (X.sd 0).last.mine,.int .u32 (X.sd 0).last.peer,.int .u32 (X.sd 0).last.yours,.slice none 0 0] 67 (0,0)) ∧ Below w.heap.size w wz) rfl rfl ⟨_,(by have hz1:World.cell? w1 ⟨w.heap.size,0,none⟩ = some _:=(AA HB1.out 0).trans rfl; have hz2:=AL HB1.out 0; first | (go_simp; done) | (go_simp; rfl)),Af HB1.out 0 _ rfl,Pz.out.setCell (p:=⟨w.heap.size,0,none⟩) (Nat.le_refl _) _⟩ (fun w2 hF => ?_)); (have HF2:=Lib.hid hF); (clear hF)) | ((with_reducible refine AO (N:=14) rfl ?_); (refine Kd.BN (Kd.int .u8) (Rr:=fun x cs => cs = [Value.int .u8 x]) (w0:=w) (W:=w2) B rfl (.const (.slice none 0 0)) (.tmp 13) 22 5 (.int .u8 0) 1 rfl Try.underlying22 IJ rfl (by decide) (by decide) (.slice none 0 0) [] body Ab nb cb (fun k => w2.heap.size ≤ k) (fun _ => False) rfl rfl (Kd.D5 _ _ _ _ _) (Kd.Cm (by have:=HC.out; rwa [← Ez.out] at this ⊢) HF2.out.2) (fun _ _ hx => hx) (fun _ hf => hf.elim) (fun k hk => hk) (HF2.out.2.mono H.out.hB) (Nat.le_trans H.out.hB HF2.out.2.size) (by have:=FP.out; have:=Ez.out; simp; omega) ?_); (intro v1 w3 hR hbl hg _); (obtain ⟨A1,c1,hv1⟩:=Kd.Am hR); (subst hv1); (have hbg:Below w2.heap.size w2 w3:=⟨hg.os,hg.tape,hg.output,hg.size,fun k hk => hg.block k hk (by simp [Value.ownBlock])⟩); (have HB3:=Lib.hid ((hbg.block _ (AQ HF2.out.1)).trans HF2.out.1)); (have ja:=Lib.hid (HF2.out.2.trans (hbg.mono HF2.out.2.size))); (have HR3:=Lib.hid (show (Kd.int .u8).R 5 w3 B (fun k => w2.heap.size ≤ k) _ body from hR)); (clear hR hbl hg hbg)) | ((with_reducible refine gate_ (.store 22 (.tmp 15) (.tmp 14)) rfl ?_); (refine AU (fun wz => wz.heap[w.heap.size]? = some (.cells #[.int .i64 kind,.int .u32 (X.sd 0).last.AB,.int .u32 (X.sd 0).last.mine,.int .u32 (X.sd 0).last.peer,.int .u32 (X.sd 0).last.yours,.slice A1 ([] ++ body).length c1] 67 (0,0)) ∧ Below w.heap.size w wz ∧ Kept w3 wz (fun k => k = w.heap.size)) rfl rfl ⟨_,(by have hz1:World.cell? w3 ⟨w.heap.size,5,none⟩ = some _:=(AA HB3.out 5).trans rfl; have hz2:=AL HB3.out 5; first | (go_simp; done) | (go_simp; rfl)),Af HB3.out 5 _ rfl,ja.out.setCell (p:=⟨w.heap.size,5,none⟩) (Nat.le_refl _) _,Kept.setCell (S:=fun k => k = w.heap.size) (Kept.refl w3 _) (p:=⟨w.heap.size,5,none⟩) (.inl rfl) _⟩ (fun w4 hF => ?_)); (have aG:=Lib.hid hF); (clear hF)))
 have hgl:gp < w.heap.size:=AQ H.out.blk
 have hbd:=AZ aG.out.2.1
 have hSS:w4.drew.heap[gp]? = some (.cells (BK X ge lv wv) 143 (0,0)) ∧ w4.drew.heap[w.heap.size]? = some (.cells #[.int .i64 kind,.int .u32 (X.sd 0).last.AB,.int .u32 (X.sd 0).last.mine,.int .u32 (X.sd 0).last.peer,.int .u32 (X.sd 0).last.yours,.slice A1 ([] ++ body).length c1] 67 (0,0)):=⟨(H.out.sub hbd).blk,aG.out.1⟩
 have P6:(Kd.int .u8).R 5 w4.drew B (fun k => w2.heap.size ≤ k ∧ k < w4.drew.heap.size) (.slice A1 ([] ++ body).length c1) body:=Kd.BV (Kd.Du (Kd.BJ (Kd.BJ HR3.out aG.out.2.2 (fun k hk => by have:=HF2.out.2.size; have:=AQ HF2.out.1; omega)) (Kept.of_below (AZ (Below.refl w4.heap.size w4)) (fun _ => False)) (fun _ _ hf => hf))) (fun k hk => ⟨hk.1,hk.2.2.1⟩)
 have hsz2:=AQ HF2.out.1
 have HS2:=Lib.hid hsz2
 clear Qk HB1 Pz HB3 ja HR3 hsz2
 refine BA (n:=11) (S:=fun w' => w'.heap[gp]? = some (.cells (BK X ge lv wv) 143 (0,0)) ∧ w'.heap[w.heap.size]? = some (.cells #[.int .i64 kind,.int .u32 (X.sd 0).last.AB,.int .u32 (X.sd 0).last.mine,.int .u32 (X.sd 0).last.peer,.int .u32 (X.sd 0).last.yours,.slice A1 ([] ++ body).length c1] 67 (0,0))) (ds:=[10]) gz (by kernel_rfl) rfl rfl (hSS) (fun hHeld => ?_)
 generalize w4.drew = w5 at hbd P6 hHeld ⊢
 have BB:=Lib.hid hbd
 have jb:=Lib.hid P6
 clear hbd P6
 refine pu 0 16 nK ?_
 refine pu 1 17 nM ?_
 refine pu 2 18 vg ?_
 refine pu 3 19 vk ?_
 refine tk 4 20 vw hHeld ?_ (hf:=by intro w' s0; have hcl:w'.cell? ⟨gp,2,none⟩ = some (.slice Al (X.sd 0).log.length cl):=(AA s0.1 2).trans (by rw [← Yh.out]; rfl); clear s0; go_simp; with_reducible rfl)
 refine tk 5 21 vz hHeld ?_ (hf:=by intro w' s0; have rD:=Try.underlying67; have hc0:w'.cell? ⟨w.heap.size,0,none⟩ = some (.int .i64 kind):=(AA s0.2 0).trans rfl; have hc1:w'.cell? ⟨w.heap.size,1,none⟩ = some (.int .u32 (X.sd 0).last.AB):=(AA s0.2 1).trans rfl; have hc2:w'.cell? ⟨w.heap.size,2,none⟩ = some (.int .u32 (X.sd 0).last.mine):=(AA s0.2 2).trans rfl; have hc3:w'.cell? ⟨w.heap.size,3,none⟩ = some (.int .u32 (X.sd 0).last.peer):=(AA s0.2 3).trans rfl; have hc4:w'.cell? ⟨w.heap.size,4,none⟩ = some (.int .u32 (X.sd 0).last.yours):=(AA s0.2 4).trans rfl; have hc5:w'.cell? ⟨w.heap.size,5,none⟩ = some (.slice A1 ([] ++ body).length c1):=(AA s0.2 5).trans rfl; clear s0; go_simp; try rfl)
 refine on 6 (some 22) wB fun K hK => ?_
 refine Es (v:=.slice (some ⟨w5.heap.size,0,none⟩) 1 1) (by rfl) rfl (w1:=w5.alloc (.cells #[.int .i64 kind,.int .u32 (X.sd 0).last.AB,.int .u32 (X.sd 0).last.mine,.int .u32 (X.sd 0).last.peer,.int .u32 (X.sd 0).last.yours,.slice A1 ([] ++ body).length c1] 67)) ?_ ?_
 ·first | (go_simp; done) | (go_simp; rfl)
 have hb2:=(Below.refl w5.heap.size w5).alloc (Nat.le_refl _) (.cells #[.int .i64 kind,.int .u32 (X.sd 0).last.AB,.int .u32 (X.sd 0).last.mine,.int .u32 (X.sd 0).last.peer,.int .u32 (X.sd 0).last.yours,.slice A1 ([] ++ body).length c1] 67)
 have jc:=Lib.hid hHeld
 refine hK.out _ _ ⟨(hb2.block gp (AQ hHeld.1)).trans hHeld.1,(hb2.block w.heap.size (AQ hHeld.2)).trans hHeld.2⟩ (fun hHeld => ?_)
 clear hK K
 refine nm 22 ?_
 refine on 7 (some 23) nN fun K hK => ?_
 have bH:=H.out.sub BB.out
 have rE:Fb.M w5 B (fun k => w2.heap.size ≤ k ∧ k < w5.heap.size) (Ci (X.sd 0) kind body) (D8 (Ci (X.sd 0) kind body) (.slice A1 ([] ++ body).length c1)):=Jp.2 ⟨_,rfl,jb.out⟩
 refine Kd.EY Fb (w0:=w) (W:=w5) B ?hw (.tmp 20) (.tmp 22) 64 67 (.agg #[.int .i64 0,.int .u32 0,.int .u32 0,.int .u32 0,.int .u32 0,.slice none 0 0]) 48 ?ho Try.underlying64 LU ?hz ?hs0 ?hb0 (lv 0) (X.sd 0).log (Ci (X.sd 0) kind body) (D8 (Ci (X.sd 0) kind body) (.slice A1 ([] ++ body).length c1)) (fun k => own 3 k ∨ w.heap.size ≤ k) (fun k => (w2.heap.size ≤ k ∧ k < w5.heap.size) ∧ some k ≠ (lv 0).ownBlock) ?hs ?hx (KX rE (bH.l 0 (by decide))) ?Eg ?hf (Kd.BV (bH.l 0 (by decide)) (fun _ hk => .inl hk)) (BB.out.mono H.out.hB) bH.hB ?hl ?hk
 case hw => rfl
 case ho => rfl
 case hz => rfl
 case hs0 => decide
 case hb0 => decide
 case hs => rw [Yh.out]; rfl
 case hx => rfl
 case Eg => exact fun k hk => ⟨.inr (by have:=HS2.out; have:=HF2.out.2.size; omega),hk.2⟩
 case hf => exact fun k hk => .inr (by have:=BB.out.size; omega)
 case hl => have:=Gv.out; omega
 intro o1 w6 hR hbl hg _
 obtain ⟨A6,c6,ho1⟩:=Kd.Am hR
 generalize ((X.sd 0).log ++ [Ci (X.sd 0) kind body]).length = n6 at ho1
 subst ho1
 have hK6:Kept w w6 (own 3):=Kept.Gi hg (Kept.of_below BB.out _) (fun k hk => .inl ((H.out.l 0 (by decide)).1 k hk))
 have aH:w6.heap[gp]? = some (.cells (BK X ge lv wv) 143 (0,0)):=Ap H.out.blk hK6 (H.out.Hl _)
 have rF:w6.heap[w.heap.size]? = some (.cells #[.int .i64 kind,.int .u32 (X.sd 0).last.AB,.int .u32 (X.sd 0).last.mine,.int .u32 (X.sd 0).last.peer,.int .u32 (X.sd 0).last.yours,.slice A1 ([] ++ body).length c1] 67 (0,0)):=(hg.block w.heap.size (AQ jc.out.2) (fun he => by have:=H.out.lt _ _ ((H.out.l 0 (by decide)).1 _ he.symm); omega)).trans jc.out.2
 have MI:=Lib.hid aH
 have RI:=Lib.hid hR
 have rG:=Lib.hid hK6
 have jd:=Lib.hid hbl
 clear hR hbl hg hK6 bH rE hHeld jc
 refine hK.out _ _ ⟨aH,rF⟩ (fun hHeld => ?_)
 clear hK K aH rF
 refine nm 23 ?_
 refine pu 8 24 iD ?_
 refine pu 9 25 iF ?_
 refine la 10 none iG fun K hK => ?_
 have hz1:w6.cell? ⟨gp,2,none⟩ = some _:=(AA MI.out 2).trans rfl
 have hz2:=AL MI.out 2
 refine CG (fun wz => Moves w B gp ge own (X.set 0 (DZ (X.sd 0) kind body)) (fun k => k = gp ∨ own 3 k) wz) (by rfl) rfl ⟨_,by first | (go_simp; done) | (go_simp; rfl),⟨_,_,wv,H.out.UI (s:=0) (by decide) rG.out RI.out,Grew.grow _ (Nat.le_refl _),Kept.setCell (p:=⟨gp,2,none⟩) (rG.out.mono (fun k hk => .inr hk)) (.inl (.inl rfl)) _,jd.out.setCell (p:=⟨gp,2,none⟩) H.out.low _⟩⟩ (fun w7 hF => ?_)
 have HF:=Lib.hid hF
 clear hF hz1 hz2 hHeld
 refine hK.out _ _ ?_
 clear hK K
 refine BG (by kernel_rfl) ?_
 go_wp2
 go_end0
 exact ⟨rfl,HF.out⟩
theorem LW {w:World} {B gp:Nat} {ge:Nat → Nat} {own:Nat → Nat → Prop} {X:Pr} {lv:Nat → Value} {wv:Value} (h:Dj w B gp ge own X lv wv) (kind:Int) (body:List Int) (Ab:Option Addr) (cb:Nat) (hC:(Kd.int .u8).C w Ab body.length body) (hbl:body.length ≤ 1000000) (hll:(X.sd 1).log.length ≤ 1000000) :
  Calls Try.prog 127 #[.pointer (some ⟨gp,9,none⟩),.int .i64 kind,.slice Ab body.length cb] w fun e w' => e = .returned (.tuple #[]) ∧ Moves w B gp ge own (X.set 1 (DZ (X.sd 1) kind body)) (fun k => k = gp ∨ own 4 k) w':=by
 obtain ⟨Al,cl,hlv⟩:=Kd.Am (h.l 1 (by decide))
 have H:=Lib.hid h
 have HC:=Lib.hid hC
 have FP:=Lib.hid hbl
 have Gv:=Lib.hid hll
 have Yh:=Lib.hid hlv
 have Qk:=Lib.hid (show w.rangeAt gp 12 [.int .i64 (X.sd 1).last.kind,.int .u32 (X.sd 1).last.AB,.int .u32 (X.sd 1).last.mine,.int .u32 (X.sd 1).last.peer,.int .u32 (X.sd 1).last.yours,.slice none 0 0] from fun j u hu => by
  have hb:w.cell? ⟨gp,12 + j,none⟩ = (BK X ge lv wv)[12 + j]?:=AA h.blk _
  rw [hb]
  match j,hu with
  | 0,hu => exact hu
  | 1,hu => exact hu
  | 2,hu => exact hu
  | 3,hu => exact hu
  | 4,hu => exact hu
  | 5,hu => exact hu
  | n + 6,hu => exact absurd hu (by simp))
 clear h hC hbl hll hlv
 generalize hnb:body.length = nb at *
 have Ez:=Lib.hid hnb
 clear hnb
 go_enter Try.func127,Try.ntmps127
 go_wp2_with (first | ((with_reducible refine AO (N:=10) rfl ?_); (refine wpList_load_mid rfl 67 (.tmp 9) rfl gp 12 (by first | rfl | (simp; done)) [.int .i64 (X.sd 1).last.kind,.int .u32 (X.sd 1).last.AB,.int .u32 (X.sd 1).last.mine,.int .u32 (X.sd 1).last.peer,.int .u32 (X.sd 1).last.yours,.slice none 0 0] _ Qk.out Try.underlying67 rfl (by kernel_rfl) ?_)) | ((with_reducible refine gate_ (.store 67 (.tmp 6) (.tmp 10)) rfl ?_); (refine Ad rfl rfl 67 (.tmp 6) (.tmp 10) rfl w.heap.size #[.int .i64 (X.sd 1).last.kind,.int .u32 (X.sd 1).last.AB,.int .u32 (X.sd 1).last.mine,.int .u32 (X.sd 1).last.peer,.int .u32 (X.sd 1).last.yours,.slice none 0 0] rfl rfl 67 _ (heap_alloc_new w _) (by kernel_rfl) rfl (by kernel_rfl) ?_); (intro w1 hb1 Hr); (have HB1:=Lib.hid hb1); (have Pz:=Lib.hid (Hr.below ((Below.refl w.heap.size w).alloc (Nat.le_refl _) _) (Nat.le_refl _))); (clear hb1 Hr)) | ((with_reducible refine gate_ (.store 3 (.tmp 12) (.tmp 11)) rfl ?_); (refine AU (fun wz => wz.heap[w.heap.size]? = some (.cells #[.int .i64 kind,.int .u32 (X.sd 1).last.AB,.int .u32 (X.sd 1).last.mine,.int .u32 (X.sd 1).last.peer,.int .u32 (X.sd 1).last.yours,.slice none 0 0] 67 (0,0)) ∧ Below w.heap.size w wz) rfl rfl ⟨_,(by have hz1:World.cell? w1 ⟨w.heap.size,0,none⟩ = some _:=(AA HB1.out 0).trans rfl; have hz2:=AL HB1.out 0; first | (go_simp; done) | (go_simp; rfl)),Af HB1.out 0 _ rfl,Pz.out.setCell (p:=⟨w.heap.size,0,none⟩) (Nat.le_refl _) _⟩ (fun w2 hF => ?_)); (have HF2:=Lib.hid hF); (clear hF)) | ((with_reducible refine AO (N:=14) rfl ?_); (refine Kd.BN (Kd.int .u8) (Rr:=fun x cs => cs = [Value.int .u8 x]) (w0:=w) (W:=w2) B rfl (.const (.slice none 0 0)) (.tmp 13) 22 5 (.int .u8 0) 1 rfl Try.underlying22 IJ rfl (by decide) (by decide) (.slice none 0 0) [] body Ab nb cb (fun k => w2.heap.size ≤ k) (fun _ => False) rfl rfl (Kd.D5 _ _ _ _ _) (Kd.Cm (by have:=HC.out; rwa [← Ez.out] at this ⊢) HF2.out.2) (fun _ _ hx => hx) (fun _ hf => hf.elim) (fun k hk => hk) (HF2.out.2.mono H.out.hB) (Nat.le_trans H.out.hB HF2.out.2.size) (by have:=FP.out; have:=Ez.out; simp; omega) ?_); (intro v1 w3 hR hbl hg _); (obtain ⟨A1,c1,hv1⟩:=Kd.Am hR); (subst hv1); (have hbg:Below w2.heap.size w2 w3:=⟨hg.os,hg.tape,hg.output,hg.size,fun k hk => hg.block k hk (by simp [Value.ownBlock])⟩); (have HB3:=Lib.hid ((hbg.block _ (AQ HF2.out.1)).trans HF2.out.1)); (have ja:=Lib.hid (HF2.out.2.trans (hbg.mono HF2.out.2.size))); (have HR3:=Lib.hid (show (Kd.int .u8).R 5 w3 B (fun k => w2.heap.size ≤ k) _ body from hR)); (clear hR hbl hg hbg)) | ((with_reducible refine gate_ (.store 22 (.tmp 15) (.tmp 14)) rfl ?_); (refine AU (fun wz => wz.heap[w.heap.size]? = some (.cells #[.int .i64 kind,.int .u32 (X.sd 1).last.AB,.int .u32 (X.sd 1).last.mine,.int .u32 (X.sd 1).last.peer,.int .u32 (X.sd 1).last.yours,.slice A1 ([] ++ body).length c1] 67 (0,0)) ∧ Below w.heap.size w wz ∧ Kept w3 wz (fun k => k = w.heap.size)) rfl rfl ⟨_,(by have hz1:World.cell? w3 ⟨w.heap.size,5,none⟩ = some _:=(AA HB3.out 5).trans rfl; have hz2:=AL HB3.out 5; first | (go_simp; done) | (go_simp; rfl)),Af HB3.out 5 _ rfl,ja.out.setCell (p:=⟨w.heap.size,5,none⟩) (Nat.le_refl _) _,Kept.setCell (S:=fun k => k = w.heap.size) (Kept.refl w3 _) (p:=⟨w.heap.size,5,none⟩) (.inl rfl) _⟩ (fun w4 hF => ?_)); (have aG:=Lib.hid hF); (clear hF)))
 have hgl:gp < w.heap.size:=AQ H.out.blk
 have hbd:=AZ aG.out.2.1
 have hSS:w4.drew.heap[gp]? = some (.cells (BK X ge lv wv) 143 (0,0)) ∧ w4.drew.heap[w.heap.size]? = some (.cells #[.int .i64 kind,.int .u32 (X.sd 1).last.AB,.int .u32 (X.sd 1).last.mine,.int .u32 (X.sd 1).last.peer,.int .u32 (X.sd 1).last.yours,.slice A1 ([] ++ body).length c1] 67 (0,0)):=⟨(H.out.sub hbd).blk,aG.out.1⟩
 have P6:(Kd.int .u8).R 5 w4.drew B (fun k => w2.heap.size ≤ k ∧ k < w4.drew.heap.size) (.slice A1 ([] ++ body).length c1) body:=Kd.BV (Kd.Du (Kd.BJ (Kd.BJ HR3.out aG.out.2.2 (fun k hk => by have:=HF2.out.2.size; have:=AQ HF2.out.1; omega)) (Kept.of_below (AZ (Below.refl w4.heap.size w4)) (fun _ => False)) (fun _ _ hf => hf))) (fun k hk => ⟨hk.1,hk.2.2.1⟩)
 have hsz2:=AQ HF2.out.1
 have HS2:=Lib.hid hsz2
 clear Qk HB1 Pz HB3 ja HR3 hsz2
 refine BA (n:=11) (S:=fun w' => w'.heap[gp]? = some (.cells (BK X ge lv wv) 143 (0,0)) ∧ w'.heap[w.heap.size]? = some (.cells #[.int .i64 kind,.int .u32 (X.sd 1).last.AB,.int .u32 (X.sd 1).last.mine,.int .u32 (X.sd 1).last.peer,.int .u32 (X.sd 1).last.yours,.slice A1 ([] ++ body).length c1] 67 (0,0))) (ds:=[10]) gz (by kernel_rfl) rfl rfl (hSS) (fun hHeld => ?_)
 generalize w4.drew = w5 at hbd P6 hHeld ⊢
 have BB:=Lib.hid hbd
 have jb:=Lib.hid P6
 clear hbd P6
 refine pu 0 16 nK ?_
 refine pu 1 17 nM ?_
 refine pu 2 18 vg ?_
 refine pu 3 19 vk ?_
 refine tk 4 20 vw hHeld ?_ (hf:=by intro w' s0; have hcl:w'.cell? ⟨gp,11,none⟩ = some (.slice Al (X.sd 1).log.length cl):=(AA s0.1 11).trans (by rw [← Yh.out]; rfl); clear s0; go_simp; with_reducible rfl)
 refine tk 5 21 vz hHeld ?_ (hf:=by intro w' s0; have rD:=Try.underlying67; have hc0:w'.cell? ⟨w.heap.size,0,none⟩ = some (.int .i64 kind):=(AA s0.2 0).trans rfl; have hc1:w'.cell? ⟨w.heap.size,1,none⟩ = some (.int .u32 (X.sd 1).last.AB):=(AA s0.2 1).trans rfl; have hc2:w'.cell? ⟨w.heap.size,2,none⟩ = some (.int .u32 (X.sd 1).last.mine):=(AA s0.2 2).trans rfl; have hc3:w'.cell? ⟨w.heap.size,3,none⟩ = some (.int .u32 (X.sd 1).last.peer):=(AA s0.2 3).trans rfl; have hc4:w'.cell? ⟨w.heap.size,4,none⟩ = some (.int .u32 (X.sd 1).last.yours):=(AA s0.2 4).trans rfl; have hc5:w'.cell? ⟨w.heap.size,5,none⟩ = some (.slice A1 ([] ++ body).length c1):=(AA s0.2 5).trans rfl; clear s0; go_simp; try rfl)
 refine on 6 (some 22) wB fun K hK => ?_
 refine Es (v:=.slice (some ⟨w5.heap.size,0,none⟩) 1 1) (by rfl) rfl (w1:=w5.alloc (.cells #[.int .i64 kind,.int .u32 (X.sd 1).last.AB,.int .u32 (X.sd 1).last.mine,.int .u32 (X.sd 1).last.peer,.int .u32 (X.sd 1).last.yours,.slice A1 ([] ++ body).length c1] 67)) ?_ ?_
 ·first | (go_simp; done) | (go_simp; rfl)
 have hb2:=(Below.refl w5.heap.size w5).alloc (Nat.le_refl _) (.cells #[.int .i64 kind,.int .u32 (X.sd 1).last.AB,.int .u32 (X.sd 1).last.mine,.int .u32 (X.sd 1).last.peer,.int .u32 (X.sd 1).last.yours,.slice A1 ([] ++ body).length c1] 67)
 have jc:=Lib.hid hHeld
 refine hK.out _ _ ⟨(hb2.block gp (AQ hHeld.1)).trans hHeld.1,(hb2.block w.heap.size (AQ hHeld.2)).trans hHeld.2⟩ (fun hHeld => ?_)
 clear hK K
 refine nm 22 ?_
 refine on 7 (some 23) nN fun K hK => ?_
 have bH:=H.out.sub BB.out
 have rE:Fb.M w5 B (fun k => w2.heap.size ≤ k ∧ k < w5.heap.size) (Ci (X.sd 1) kind body) (D8 (Ci (X.sd 1) kind body) (.slice A1 ([] ++ body).length c1)):=Jp.2 ⟨_,rfl,jb.out⟩
 refine Kd.EY Fb (w0:=w) (W:=w5) B ?hw (.tmp 20) (.tmp 22) 64 67 (.agg #[.int .i64 0,.int .u32 0,.int .u32 0,.int .u32 0,.int .u32 0,.slice none 0 0]) 48 ?ho Try.underlying64 LU ?hz ?hs0 ?hb0 (lv 1) (X.sd 1).log (Ci (X.sd 1) kind body) (D8 (Ci (X.sd 1) kind body) (.slice A1 ([] ++ body).length c1)) (fun k => own 4 k ∨ w.heap.size ≤ k) (fun k => (w2.heap.size ≤ k ∧ k < w5.heap.size) ∧ some k ≠ (lv 1).ownBlock) ?hs ?hx (KX rE (bH.l 1 (by decide))) ?Eg ?hf (Kd.BV (bH.l 1 (by decide)) (fun _ hk => .inl hk)) (BB.out.mono H.out.hB) bH.hB ?hl ?hk
 case hw => rfl
 case ho => rfl
 case hz => rfl
 case hs0 => decide
 case hb0 => decide
 case hs => rw [Yh.out]; rfl
 case hx => rfl
 case Eg => exact fun k hk => ⟨.inr (by have:=HS2.out; have:=HF2.out.2.size; omega),hk.2⟩
 case hf => exact fun k hk => .inr (by have:=BB.out.size; omega)
 case hl => have:=Gv.out; omega
 intro o1 w6 hR hbl hg _
 obtain ⟨A6,c6,ho1⟩:=Kd.Am hR
 generalize ((X.sd 1).log ++ [Ci (X.sd 1) kind body]).length = n6 at ho1
 subst ho1
 have hK6:Kept w w6 (own 4):=Kept.Gi hg (Kept.of_below BB.out _) (fun k hk => .inl ((H.out.l 1 (by decide)).1 k hk))
 have aH:w6.heap[gp]? = some (.cells (BK X ge lv wv) 143 (0,0)):=Ap H.out.blk hK6 (H.out.Hl _)
 have rF:w6.heap[w.heap.size]? = some (.cells #[.int .i64 kind,.int .u32 (X.sd 1).last.AB,.int .u32 (X.sd 1).last.mine,.int .u32 (X.sd 1).last.peer,.int .u32 (X.sd 1).last.yours,.slice A1 ([] ++ body).length c1] 67 (0,0)):=(hg.block w.heap.size (AQ jc.out.2) (fun he => by have:=H.out.lt _ _ ((H.out.l 1 (by decide)).1 _ he.symm); omega)).trans jc.out.2
 have MI:=Lib.hid aH
 have RI:=Lib.hid hR
 have rG:=Lib.hid hK6
 have jd:=Lib.hid hbl
 clear hR hbl hg hK6 bH rE hHeld jc
 refine hK.out _ _ ⟨aH,rF⟩ (fun hHeld => ?_)
 clear hK K aH rF
 refine nm 23 ?_
 refine pu 8 24 iD ?_
 refine pu 9 25 iF ?_
 refine la 10 none iG fun K hK => ?_
 have hz1:w6.cell? ⟨gp,11,none⟩ = some _:=(AA MI.out 11).trans rfl
 have hz2:=AL MI.out 11
 refine CG (fun wz => Moves w B gp ge own (X.set 1 (DZ (X.sd 1) kind body)) (fun k => k = gp ∨ own 4 k) wz) (by rfl) rfl ⟨_,by first | (go_simp; done) | (go_simp; rfl),⟨_,_,wv,H.out.UI (s:=1) (by decide) rG.out RI.out,Grew.grow _ (Nat.le_refl _),Kept.setCell (p:=⟨gp,11,none⟩) (rG.out.mono (fun k hk => .inr hk)) (.inl (.inl rfl)) _,jd.out.setCell (p:=⟨gp,11,none⟩) H.out.low _⟩⟩ (fun w7 hF => ?_)
 have HF:=Lib.hid hF
 clear hF hz1 hz2 hHeld
 refine hK.out _ _ ?_
 clear hK K
 refine BG (by kernel_rfl) ?_
 go_wp2
 go_end0
 exact ⟨rfl,HF.out⟩
end Go.Proofs.Ytnkkgofpifhoeaa.Pr
end
