/- What the laws of a pair are proved with: links and pairs in memory, what their methods do, what a pair keeps to (part 20). -/
import Derived.Test.YtnkkgofpifhoeaaPE19
import Derived.Deep.Slices
import Derived.ChangeSame
import Derived.ProofKit
set_option linter.unusedSimpArgs false
set_option linter.unusedVariables false
set_option maxRecDepth 100000
set_option maxHeartbeats 16000000
theorem Z40 {p:Prop} (h:p:=by
 obtain ⟨_,_,_,_,hP,_⟩:=h.whole
 have h1:=(hI.p.side s hs).len
 have h2:=(hI.p.side s hs).short
 have h0:s = 0 ∨ s = 1:=by omega
 rcases h0 with rfl | rfl
 ·exact uJ hP (by omega) (fun x hx => Nat.le_trans (h2 x hx) (by decide))
 ·exact uK hP (by omega) (fun x hx => Nat.le_trans (h2 x hx) (by decide))):p:=h
theorem Z39 {p:Prop} (h:p:=by
 go_wp2_with (go_at_call 81; (have hc:=mY w gp i h0 h1); (with_reducible refine hc.mono ?_); clear hc; rintro e w9 ⟨rfl,rfl⟩)
 all_goals (go_ret; exact ⟨rfl,rfl⟩)):p:=h
section
namespace Go.Proofs.Ytnkkgofpifhoeaa.Pr
open Go.RowKit Go.Proofs.Ytnkkgofpifhoeaa.Base Go.Proofs.Ytnkkgofpifhoeaa.Steps Go.Proofs.Ytnkkgofpifhoeaa.Lk Go.Proofs.Ytnkkgofpifhoeaa.Fg Go.Proofs.YtnkkgofpifhoeaaW.PrintWords Go.Proofs.YtnkkgofpifhoeaaW.PrintLast
theorem dR (w:World):(zeroValue 144).run Try.prog w = .ok .nilFunc w:=by kernel_rfl
theorem Zc {k:Int} (h:k < 1 ∨ 8 < k):KA ED k = some none:=by
 have b1:(k == 1) = false:=by simp; omega
 have b2:(k == 2) = false:=by simp; omega
 have b3:(k == 3) = false:=by simp; omega
 have b4:(k == 4) = false:=by simp; omega
 have b5:(k == 5) = false:=by simp; omega
 have b6:(k == 6) = false:=by simp; omega
 have b7:(k == 7) = false:=by simp; omega
 have b8:(k == 8) = false:=by simp; omega
 simp [KA,ED,Uz,Uy,Ux,Uw,Uu,Ut,Us,Ur,MK,Instr.findNow,Instr.sameNow,b1,b2,b3,b4,b5,b6,b7,b8]
theorem dS {w:World} {r:Nat} (hb:w.heap[r]? = some (.map ED 8)) {k:Int} (h:k < 1 ∨ 8 < k):(Instr.lookup 146 (.map (some r)) (.int .i64 k) true).run Try.prog w = .ok (.tuple #[.nilFunc,.bool false]) w:=by
 have h:=Zc h
 unfold KA at h
 simp [Instr.lookup,run_underlying Try.underlying146,MapKept.run_getObj_map hb,MapKept.run_checkKey Try.underlying3 (Qa k),MapKept.run_findKey Try.underlying3 h,dR,Result.andThen]
theorem uz {w:World} {B gp:Nat} {ge:Nat → Nat} {own:Nat → Nat → Prop} {X:Pr} {lv:Nat → Value} {wv:Value} (h:Dj w B gp ge own X lv wv) (kind side i:Int) (hg1:kind < 1 ∨ 8 < kind) (Ab:Option Addr) (nb cb:Nat) :
  Calls Try.prog 41 #[.pointer (some ⟨gp,0,none⟩),.agg #[.int .i64 kind,.int .i64 side,.int .i64 i,.slice Ab nb cb]] w fun e w' => e = .returned (.int .i64 121) ∧ Below w.heap.size w w':=by
 have hba:Below w.heap.size w (w.alloc (.cells #[.int .i64 kind,.int .i64 side,.int .i64 i,.slice Ab nb cb] 72)):=(Below.refl _ _).alloc (Nat.le_refl _) _
 have hSS:(w.alloc (.cells #[.int .i64 kind,.int .i64 side,.int .i64 i,.slice Ab nb cb] 72)).drew.heap[w.heap.size]? = some (.cells #[.int .i64 kind,.int .i64 side,.int .i64 i,.slice Ab nb cb] 72 (0,0)):=heap_alloc_new w _
 obtain ⟨Aw,cw,_,hwv,_⟩:=h.way.reads
 subst hwv
 have EJ:=Lib.hid hSS
 have EM:=Lib.hid (AZ hba)
 have H:=Lib.hid h
 have HG:=Lib.hid hg1
 clear h hba hSS
 go_enter Try.func41,Try.ntmps41
 go_wp2_with fail
 have hSS:=EJ.out
 have hbd:=EM.out
 clear EJ EM
 refine BA (n:=9) (S:=fun w' => w'.heap[w.heap.size]? = some (.cells #[.int .i64 kind,.int .i64 side,.int .i64 i,.slice Ab nb cb] 72 (0,0))) (ds:=[]) Zu (by kernel_rfl) rfl rfl (hSS) (fun hHeld => ?_)
 generalize (w.alloc (.cells #[.int .i64 kind,.int .i64 side,.int .i64 i,.slice Ab nb cb] 72)).drew = w2 at hbd hHeld ⊢
 have BB:=Lib.hid hbd
 clear hbd
 refine pu 1 15 iH ?_
 refine tk 2 16 iI hHeld ?_ (hf:=by intro w' s0; have hc0:w'.cell? ⟨w.heap.size,0,none⟩ = some (.int .i64 kind):=(AA s0 0).trans rfl; clear s0; go_simp; with_reducible rfl)
 refine on 0 (some 14) aP fun K hK => ?_
 refine BH Try.func82 (by kernel_rfl) rfl #[] (by rfl) rfl rfl (by (try simp only [List.map_toArray,List.map_cons,List.map_nil]); first | done | rfl) ?_
 refine (JY w2).mono ?_
 rintro e w3 ⟨rfl,hmap,hb3⟩
 refine ⟨_,rfl,?_⟩
 have hS3:w3.heap[w.heap.size]? = some (.cells #[.int .i64 kind,.int .i64 side,.int .i64 i,.slice Ab nb cb] 72 (0,0)):=(hb3.block _ (AQ hHeld)).trans hHeld
 have OO:=Lib.hid hmap
 have HB3:=Lib.hid (BB.out.trans (hb3.mono BB.out.size))
 have I4:=Lib.hid hS3
 generalize w2.heap.size = gm at *
 clear hmap hb3 hHeld
 refine hK.out _ _ hS3 (fun hHeld => ?_)
 clear hK K hS3
 refine nm 14 ?_
 refine on 3 (some 17) aQ fun K hK => ?_
 have hlk:=dS OO.out HG.out
 refine Es (v:=.tuple #[.nilFunc,.bool false]) (by rfl) rfl (w1:=w3) (by first | (go_simp; done) | (go_simp; rfl)) ?_
 clear hlk
 refine hK.out _ _ hHeld (fun hHeld => ?_)
 clear hK K
 refine nm 17 ?_
 refine pu 4 13 Zv ?_
 refine pu 5 18 Zw ?_
 refine pu 6 19 Zx ?_
 refine pu 7 5 Zy ?_
 refine pu 8 6 Zz ?_
 refine BG (by kernel_rfl) ?_
 clear hHeld
 have hk0:w3.cell? ⟨w.heap.size,0,none⟩ = some (.int .i64 kind):=(AA I4.out 0).trans rfl
 have hk1:w3.cell? ⟨w.heap.size,1,none⟩ = some (.int .i64 side):=(AA I4.out 1).trans rfl
 have hk2:w3.cell? ⟨w.heap.size,2,none⟩ = some (.int .i64 i):=(AA I4.out 2).trans rfl
 have hk3:w3.cell? ⟨w.heap.size,3,none⟩ = some (.slice Ab nb cb):=(AA I4.out 3).trans rfl
 have dP:w3.cell? ⟨gp,18,none⟩ = some (.slice Aw X.way.length cw):=(AA (H.out.sub HB3.out).blk 18).trans rfl
 go_wp2_with fail
 all_goals (go_ret; exact ⟨rfl,HB3.out⟩)
theorem vF {w:World} {B gp:Nat} {ge:Nat → Nat} {own:Nat → Nat → Prop} {X:Pr} {lv:Nat → Value} {wv:Value} (h:Dj w B gp ge own X lv wv) (kind side i:Int) (fn:FuncId) (hg1:kind < 6) (hs0:side ≠ 0) (hs1:side ≠ 1) (Ab:Option Addr) (nb cb:Nat) (hlook:∀ (W:World) (r:Nat),W.heap[r]? = some (.map ED 8) → (Instr.lookup 146 (.map (some r)) (.int .i64 kind) true).run Try.prog W = .ok (.tuple #[.func (.func fn) #[] #[],.bool true]) W) :
  Calls Try.prog 41 #[.pointer (some ⟨gp,0,none⟩),.agg #[.int .i64 kind,.int .i64 side,.int .i64 i,.slice Ab nb cb]] w fun e w' => e = .returned (.int .i64 120) ∧ Below w.heap.size w w':=by
 have hba:Below w.heap.size w (w.alloc (.cells #[.int .i64 kind,.int .i64 side,.int .i64 i,.slice Ab nb cb] 72)):=(Below.refl _ _).alloc (Nat.le_refl _) _
 have hSS:(w.alloc (.cells #[.int .i64 kind,.int .i64 side,.int .i64 i,.slice Ab nb cb] 72)).drew.heap[w.heap.size]? = some (.cells #[.int .i64 kind,.int .i64 side,.int .i64 i,.slice Ab nb cb] 72 (0,0)):=heap_alloc_new w _
 obtain ⟨Aw,cw,_,hwv,_⟩:=h.way.reads
 subst hwv
 have EJ:=Lib.hid hSS
 have EM:=Lib.hid (AZ hba)
 have H:=Lib.hid h
 have LC:=Lib.hid hlook
 clear h hba hSS hlook
 go_enter Try.func41,Try.ntmps41
 go_wp2_with fail
 have hSS:=EJ.out
 have hbd:=EM.out
 clear EJ EM
 refine BA (n:=9) (S:=fun w' => w'.heap[w.heap.size]? = some (.cells #[.int .i64 kind,.int .i64 side,.int .i64 i,.slice Ab nb cb] 72 (0,0))) (ds:=[]) Zu (by kernel_rfl) rfl rfl (hSS) (fun hHeld => ?_)
 generalize (w.alloc (.cells #[.int .i64 kind,.int .i64 side,.int .i64 i,.slice Ab nb cb] 72)).drew = w2 at hbd hHeld ⊢
 have BB:=Lib.hid hbd
 clear hbd
 refine pu 1 15 iH ?_
 refine tk 2 16 iI hHeld ?_ (hf:=by intro w' s0; have hc0:w'.cell? ⟨w.heap.size,0,none⟩ = some (.int .i64 kind):=(AA s0 0).trans rfl; clear s0; go_simp; with_reducible rfl)
 refine on 0 (some 14) aP fun K hK => ?_
 refine BH Try.func82 (by kernel_rfl) rfl #[] (by rfl) rfl rfl (by (try simp only [List.map_toArray,List.map_cons,List.map_nil]); first | done | rfl) ?_
 refine (JY w2).mono ?_
 rintro e w3 ⟨rfl,hmap,hb3⟩
 refine ⟨_,rfl,?_⟩
 have hS3:w3.heap[w.heap.size]? = some (.cells #[.int .i64 kind,.int .i64 side,.int .i64 i,.slice Ab nb cb] 72 (0,0)):=(hb3.block _ (AQ hHeld)).trans hHeld
 have OO:=Lib.hid hmap
 have HB3:=Lib.hid (BB.out.trans (hb3.mono BB.out.size))
 have I4:=Lib.hid hS3
 generalize w2.heap.size = gm at *
 clear hmap hb3 hHeld
 refine hK.out _ _ hS3 (fun hHeld => ?_)
 clear hK K hS3
 refine nm 14 ?_
 refine on 3 (some 17) aQ fun K hK => ?_
 have hlk:=LC.out w3 gm OO.out
 refine Es (v:=.tuple #[.func (.func fn) #[] #[],.bool true]) (by rfl) rfl (w1:=w3) (by first | (go_simp; done) | (go_simp; rfl)) ?_
 clear hlk
 refine hK.out _ _ hHeld (fun hHeld => ?_)
 clear hK K
 refine nm 17 ?_
 refine pu 4 13 Zv ?_
 refine pu 5 18 Zw ?_
 refine pu 6 19 Zx ?_
 refine pu 7 5 Zy ?_
 refine pu 8 6 Zz ?_
 refine BG (by kernel_rfl) ?_
 clear hHeld
 have hk0:w3.cell? ⟨w.heap.size,0,none⟩ = some (.int .i64 kind):=(AA I4.out 0).trans rfl
 have hk1:w3.cell? ⟨w.heap.size,1,none⟩ = some (.int .i64 side):=(AA I4.out 1).trans rfl
 have hk2:w3.cell? ⟨w.heap.size,2,none⟩ = some (.int .i64 i):=(AA I4.out 2).trans rfl
 have hk3:w3.cell? ⟨w.heap.size,3,none⟩ = some (.slice Ab nb cb):=(AA I4.out 3).trans rfl
 have dP:w3.cell? ⟨gp,18,none⟩ = some (.slice Aw X.way.length cw):=(AA (H.out.sub HB3.out).blk 18).trans rfl
 have Nc:decide (kind < 6) = true:=by simp [hg1]
 have hq0:(side != 0) = true:=by simp [hs0]
 have hq1:(side != 1) = true:=by simp [hs1]
 go_wp2_with fail
 all_goals (go_ret; exact ⟨rfl,HB3.out⟩)
theorem vG {w:World} {B gp:Nat} {ge:Nat → Nat} {own:Nat → Nat → Prop} {X:Pr} {lv:Nat → Value} {wv:Value} (h:Dj w B gp ge own X lv wv) (kind side i:Int) (fn:FuncId) (hg1:¬ kind < 6) (hi:i < 0 ∨ (X.way.length:Int) ≤ i) (Ab:Option Addr) (nb cb:Nat) (hlook:∀ (W:World) (r:Nat),W.heap[r]? = some (.map ED 8) → (Instr.lookup 146 (.map (some r)) (.int .i64 kind) true).run Try.prog W = .ok (.tuple #[.func (.func fn) #[] #[],.bool true]) W) :
  Calls Try.prog 41 #[.pointer (some ⟨gp,0,none⟩),.agg #[.int .i64 kind,.int .i64 side,.int .i64 i,.slice Ab nb cb]] w fun e w' => e = .returned (.int .i64 122) ∧ Below w.heap.size w w':=by
 have hba:Below w.heap.size w (w.alloc (.cells #[.int .i64 kind,.int .i64 side,.int .i64 i,.slice Ab nb cb] 72)):=(Below.refl _ _).alloc (Nat.le_refl _) _
 have hSS:(w.alloc (.cells #[.int .i64 kind,.int .i64 side,.int .i64 i,.slice Ab nb cb] 72)).drew.heap[w.heap.size]? = some (.cells #[.int .i64 kind,.int .i64 side,.int .i64 i,.slice Ab nb cb] 72 (0,0)):=heap_alloc_new w _
 obtain ⟨Aw,cw,_,hwv,_⟩:=h.way.reads
 subst hwv
 have EJ:=Lib.hid hSS
 have EM:=Lib.hid (AZ hba)
 have H:=Lib.hid h
 have LC:=Lib.hid hlook
 clear h hba hSS hlook
 go_enter Try.func41,Try.ntmps41
 go_wp2_with fail
 have hSS:=EJ.out
 have hbd:=EM.out
 clear EJ EM
 refine BA (n:=9) (S:=fun w' => w'.heap[w.heap.size]? = some (.cells #[.int .i64 kind,.int .i64 side,.int .i64 i,.slice Ab nb cb] 72 (0,0))) (ds:=[]) Zu (by kernel_rfl) rfl rfl (hSS) (fun hHeld => ?_)
 generalize (w.alloc (.cells #[.int .i64 kind,.int .i64 side,.int .i64 i,.slice Ab nb cb] 72)).drew = w2 at hbd hHeld ⊢
 have BB:=Lib.hid hbd
 clear hbd
 refine pu 1 15 iH ?_
 refine tk 2 16 iI hHeld ?_ (hf:=by intro w' s0; have hc0:w'.cell? ⟨w.heap.size,0,none⟩ = some (.int .i64 kind):=(AA s0 0).trans rfl; clear s0; go_simp; with_reducible rfl)
 refine on 0 (some 14) aP fun K hK => ?_
 refine BH Try.func82 (by kernel_rfl) rfl #[] (by rfl) rfl rfl (by (try simp only [List.map_toArray,List.map_cons,List.map_nil]); first | done | rfl) ?_
 refine (JY w2).mono ?_
 rintro e w3 ⟨rfl,hmap,hb3⟩
 refine ⟨_,rfl,?_⟩
 have hS3:w3.heap[w.heap.size]? = some (.cells #[.int .i64 kind,.int .i64 side,.int .i64 i,.slice Ab nb cb] 72 (0,0)):=(hb3.block _ (AQ hHeld)).trans hHeld
 have OO:=Lib.hid hmap
 have HB3:=Lib.hid (BB.out.trans (hb3.mono BB.out.size))
 have I4:=Lib.hid hS3
 generalize w2.heap.size = gm at *
 clear hmap hb3 hHeld
 refine hK.out _ _ hS3 (fun hHeld => ?_)
 clear hK K hS3
 refine nm 14 ?_
 refine on 3 (some 17) aQ fun K hK => ?_
 have hlk:=LC.out w3 gm OO.out
 refine Es (v:=.tuple #[.func (.func fn) #[] #[],.bool true]) (by rfl) rfl (w1:=w3) (by first | (go_simp; done) | (go_simp; rfl)) ?_
 clear hlk
 refine hK.out _ _ hHeld (fun hHeld => ?_)
 clear hK K
 refine nm 17 ?_
 refine pu 4 13 Zv ?_
 refine pu 5 18 Zw ?_
 refine pu 6 19 Zx ?_
 refine pu 7 5 Zy ?_
 refine pu 8 6 Zz ?_
 refine BG (by kernel_rfl) ?_
 clear hHeld
 have hk0:w3.cell? ⟨w.heap.size,0,none⟩ = some (.int .i64 kind):=(AA I4.out 0).trans rfl
 have hk1:w3.cell? ⟨w.heap.size,1,none⟩ = some (.int .i64 side):=(AA I4.out 1).trans rfl
 have hk2:w3.cell? ⟨w.heap.size,2,none⟩ = some (.int .i64 i):=(AA I4.out 2).trans rfl
 have hk3:w3.cell? ⟨w.heap.size,3,none⟩ = some (.slice Ab nb cb):=(AA I4.out 3).trans rfl
 have dP:w3.cell? ⟨gp,18,none⟩ = some (.slice Aw X.way.length cw):=(AA (H.out.sub HB3.out).blk 18).trans rfl
 have Nc:decide (kind < 6) = false:=by simp [hg1]
 have Md:decide (kind ≥ 6) = true:=by simp; omega
 by_cases hi0:i < 0
 ·have hi1:decide (i < 0) = true:=by simp [hi0]
  go_wp2_with fail
  go_quiet (fail)
  rename Nat => nq1
  go_wp2_with fail
  all_goals (go_ret; exact ⟨rfl,Bd HB3.out nq1⟩)
 ·have hi1:decide (i < 0) = false:=by simp; omega
  have hi2:decide (i ≥ (X.way.length:Int)) = true:=by simp; omega
  go_wp2_with fail
  go_quiet (fail)
  rename Nat => nq1
  go_wp2_with fail
  all_goals (go_ret; exact ⟨rfl,Bd HB3.out nq1⟩)
end Go.Proofs.Ytnkkgofpifhoeaa.Pr
end
section
namespace Go.Proofs.Ytnkkgofpifhoeaa.Pr
open Go.RowKit Go.Proofs.Ytnkkgofpifhoeaa.Base Go.Proofs.Ytnkkgofpifhoeaa.Lk Go.Proofs.Ytnkkgofpifhoeaa.Fg Go.Proofs.YtnkkgofpifhoeaaW.PrintWords
theorem CS.same {w w':World} {B gp:Nat} {U:Nat → Prop} {X:Pr} (h:Whole w B gp U X) (hb:Below w.heap.size w w'):CS w B gp U X w' :=
 ⟨(h.sub hb).mono (fun k hk => .inl hk),Kept.of_below hb _,hb.mono h.hB⟩
theorem U8 {X:Pr} {N:Nat} (hI:Inv X N) {f:Fl} (hf:XF X f):∃ L' hd,Bf (X.sd f.dst.toNat).end_ f.AB f.p = (L',⟨hd,false,false,[]⟩) ∨ Bf (X.sd f.dst.toNat).end_ f.AB f.p = (L',⟨hd,true,false,[]⟩) ∨ Bf (X.sd f.dst.toNat).end_ f.AB f.p = (L',⟨hd,false,true,[]⟩) ∨
  ∃ body,Bf (X.sd f.dst.toNat).end_ f.AB f.p = (L',⟨hd,false,false,body⟩) ∧ body.length ≤ 1000000 ∧ 0 < body.length:=by
 have hs:f.dst.toNat < 2:=by have:=hf.dst; omega
 have hd:=hI.p.side _ hs
 obtain ⟨hc,_⟩:=IA hd.fine.ok (hI.out _ hs) f.AB f.p
 have hgc:=J3 hf.good
 have hgl:=hf.good.len
 generalize hL:(Bf (X.sd f.dst.toNat).end_ f.AB f.p).1 = L' at hc
 generalize hT:(Bf (X.sd f.dst.toNat).end_ f.AB f.p).2 = t at hc
 have hx:Bf (X.sd f.dst.toNat).end_ f.AB f.p = (L',t):=by rw [← hL,← hT]
 rw [hx]
 cases hc with
 | none _ => exact ⟨_,_,.inl rfl⟩
 | up h1 hk ha hm hss hy => exact ⟨_,_,.inr (.inl rfl)⟩
 | learn h1 hk ha hm hss hy => exact ⟨_,_,.inl rfl⟩
 | again h2 hk ha h0 hss hy => exact ⟨_,_,.inl rfl⟩
 | last h2 hk ha ht => exact ⟨_,_,.inr (.inr (.inl rfl))⟩
 | anew h2 hk ha ht hss hy => exact ⟨_,_,.inr (.inr (.inl rfl))⟩
 | signal h2 hk ha hm k hkk hxx hy =>
  by_cases hg:f.p.kind = 2 ∧ f.p.seq = (X.sd f.dst.toNat).end_.expected
  ·have hb:OV (X.sd f.dst.toNat).end_ f.p = f.p.body:=by unfold OV; rw [if_pos hg]
   rw [hb]
   exact ⟨_,_,.inr (.inr (.inr ⟨_,rfl,by omega,hgc.2 hg.1⟩))⟩
  ·have hb:OV (X.sd f.dst.toNat).end_ f.p = []:=by unfold OV; rw [if_neg hg]
   rw [hb]
   exact ⟨_,_,.inl rfl⟩
theorem XU {w:World} {B gp N:Nat} {ge:Nat → Nat} {own:Nat → Nat → Prop} {X:Pr} {lv:Nat → Value} {wv:Value} (h:Dj w B gp ge own X lv wv) (hI:Inv X N) (hN:N ≤ 900000) (i:Nat) (hi:i < X.way.length) (kind side:Int) (vb:Value) :
  Calls Try.prog 112 #[.pointer (some ⟨gp,0,none⟩),.agg #[.int .i64 kind,.int .i64 side,.int .i64 (i:Int),vb]] w fun e w' => e = .returned (.int .i64 0) ∧ ∃ S:Nat → Prop,(∀ k,S k → k = gp ∨ ∃ j,own j k) ∧ Moves w B gp ge own (Gn X i) S w':=by
 have hmem:X.way.getD i DI ∈ X.way:=by
  rw [List.getD_eq_getElem?_getD,List.getElem?_eq_getElem hi]
  exact List.getElem_mem hi
 have hf:=hI.p.fl _ hmem
 have hw:=hI.p.way
 obtain ⟨L',hd,hT⟩:=U8 hI hf
 have hS:∀ s,∀ k,(k = gp ∨ own (1 + s) k ∨ own (3 + s) k) → k = gp ∨ ∃ j,own j k:=fun s k hk => hk.elim .inl (fun x => x.elim (fun y => .inr ⟨_,y⟩) (fun y => .inr ⟨_,y⟩))
 unfold Gn
 generalize gW:X.way.getD i DI = f at *
 obtain ⟨dst,bt,p⟩:=f
 have hbt:0 < bt ∧ bt < 4294967296:=hf.AB
 have hg:p.Good:=hf.good
 have hdst:dst = 0 ∨ dst = 1:=hf.dst
 have hl:∀ s,s < 2 → (X.sd s).log.length ≤ 1000000:=fun s hs => by have:=(hI.p.side s hs).len; omega
 have hok:∀ s,s < 2 → (X.sd s).end_.Ok:=fun s hs => (hI.p.side s hs).fine.ok
 rcases hdst with rfl | rfl
 ·rcases hT with hT | hT | hT | ⟨body,hT,hb1,hb2⟩
  ·refine (SL h i hi hw bt p gW hbt hg (hok 0 (by decide)) (hl 0 (by decide)) kind side vb L' hd hT).mono fun e w' hq => ⟨hq.1,_,hS 0,?_⟩
   rw [hT]; exact hq.2
  ·refine (SV h i hi hw bt p gW hbt hg (hok 0 (by decide)) (hl 0 (by decide)) kind side vb L' hd hT).mono fun e w' hq => ⟨hq.1,_,hS 0,?_⟩
   rw [hT]; exact hq.2
  ·refine (SQ h i hi hw bt p gW hbt hg (hok 0 (by decide)) (hl 0 (by decide)) kind side vb L' hd hT).mono fun e w' hq => ⟨hq.1,_,hS 0,?_⟩
   rw [hT]; exact hq.2
  ·refine (SY h i hi hw bt p gW hbt hg (hok 0 (by decide)) (hl 0 (by decide)) kind side vb L' hd body hb1 hb2 hT).mono fun e w' hq => ⟨hq.1,_,hS 0,?_⟩
   rw [hT]
   have e1:DW (X.sd 0) (L',⟨hd,false,false,body⟩) = DZ (Ai (X.sd 0) L') 4 body:=by
    unfold DW
    rw [if_neg (show ¬ false = true by decide),if_neg (show ¬ false = true by decide),if_pos hb2]
   show Moves w B gp ge own (({ X with way:=X.way.eraseIdx i }:Pr).set 0 (DW (X.sd 0) (L',⟨hd,false,false,body⟩))) _ w'
   rw [e1]; exact hq.2
 ·rcases hT with hT | hT | hT | ⟨body,hT,hb1,hb2⟩
  ·refine (SN h i hi hw bt p gW hbt hg (hok 1 (by decide)) (hl 1 (by decide)) kind side vb L' hd hT).mono fun e w' hq => ⟨hq.1,_,hS 1,?_⟩
   rw [hT]; exact hq.2
  ·refine (SX h i hi hw bt p gW hbt hg (hok 1 (by decide)) (hl 1 (by decide)) kind side vb L' hd hT).mono fun e w' hq => ⟨hq.1,_,hS 1,?_⟩
   rw [hT]; exact hq.2
  ·refine (SS h i hi hw bt p gW hbt hg (hok 1 (by decide)) (hl 1 (by decide)) kind side vb L' hd hT).mono fun e w' hq => ⟨hq.1,_,hS 1,?_⟩
   rw [hT]; exact hq.2
  ·refine (Si h i hi hw bt p gW hbt hg (hok 1 (by decide)) (hl 1 (by decide)) kind side vb L' hd body hb1 hb2 hT).mono fun e w' hq => ⟨hq.1,_,hS 1,?_⟩
   rw [hT]
   have e1:DW (X.sd 1) (L',⟨hd,false,false,body⟩) = DZ (Ai (X.sd 1) L') 4 body:=by
    unfold DW
    rw [if_neg (show ¬ false = true by decide),if_neg (show ¬ false = true by decide),if_pos hb2]
   show Moves w B gp ge own (({ X with way:=X.way.eraseIdx i }:Pr).set 1 (DW (X.sd 1) (L',⟨hd,false,false,body⟩))) _ w'
   rw [e1]; exact hq.2
def Zd (w:World) (gp:Nat) (U:Nat → Prop) (Ab:Option Addr) (body:List Int):Prop:=∀ W':World,Kept w W' (fun k => k = gp ∨ U k) → (Kd.int .u8).C W' Ab body.length body
section
variable {w:World} {B gp N:Nat} {U:Nat → Prop} {X:Pr} (h:Whole w B gp U X) (hI:Inv X N) (hN:N ≤ 900000)
include h hI hN
theorem vH (kind side i:Int) (body:List Int) (Ab:Option Addr) (cb:Nat) (hb:LX X ⟨kind,side,i,body⟩ = 0) (hk6:kind < 6) (hC:kind = 3 → Zd w gp U Ab body) :
  Calls Try.prog 41 #[.pointer (some ⟨gp,0,none⟩),.agg #[.int .i64 kind,.int .i64 side,.int .i64 i,.slice Ab body.length cb]] w fun e w' => e = .returned (.int .i64 (Jh X ⟨kind,side,i,body⟩)) ∧ CS w B gp U (BC (BC (Fv X ⟨kind,side,i,body⟩) 0) 1) w':=by
 have hact:=MX hI (by omega) hb
 have hoy:∀ s,s < 2 → ((Fv X ⟨kind,side,i,body⟩).sd s).end_.Ok:=fun s hs => (hact.side s hs).fine.ok
 have hwy:=hact.way
 obtain ⟨hk,hsd,_⟩:=Gg hb
 obtain ⟨ge,own,lv,wv,hP,hU⟩:=h
 have hok:∀ s,s < 2 → (X.sd s).end_.Ok:=fun s hs => (hI.p.side s hs).fine.ok
 have hl:∀ s,s < 2 → (X.sd s).log.length ≤ 1000000:=fun s hs => by have:=(hI.p.side s hs).len; omega
 have lK:∀ s,s < 2 → 0 < (X.sd s).AB ∧ (X.sd s).AB < 4294967296:=fun s hs => by
  rw [(hI.p.side s hs).AB]; exact ⟨(hI.p.side s hs).fine.own,(hI.p.side s hs).fine.ok.own.2⟩
 have AAm:side = 0 ∨ side = 1:=hsd hk6
 have hkk:kind = 1 ∨ kind = 2 ∨ kind = 3 ∨ kind = 4 ∨ kind = 5:=by have:=hk.1; simp only at this; omega
 have hO:∀ j,∀ k,own j k → k = gp ∨ U k:=fun j k hx => .inr (hU j k hx)
 have hS3:∀ a b,∀ k,(k = gp ∨ own a k ∨ own b k) → k = gp ∨ U k:=fun a b k hk => hk.elim .inl (fun x => x.elim (fun y => .inr (hU _ _ y)) (fun y => .inr (hU _ _ y)))
 have hbody:kind = 3 → ∀ s,∀ w',Below w.heap.size w w' → ∀ W':World,Kept w' W' (fun k => k = gp ∨ own (1 + s) k ∨ own (3 + s) k) → (Kd.int .u8).C W' Ab body.length body:=fun h3 s w' hbw W' hkw =>
  hC h3 W' ((Kept.of_below hbw _).BQ hkw (fun k hx => .inl (hS3 _ _ k hx)))
 rcases hkk with rfl | rfl | rfl | rfl | rfl <;> rcases AAm with rfl | rfl
 ·exact Sj hP 1 i (by decide) Ab body.length cb 107 _ Try.func107 (by kernel_rfl) rfl _ (fun W r hm => U0 hm) (fun w' hbw => (je (hP.sub hbw) (hok 0 (by decide)) 1 i _).mono fun e w'' hq => ⟨hq.1,hq.2.whole hU (hO _)⟩) hoy hwy
 ·exact Sm hP 1 i (by decide) Ab body.length cb 107 _ Try.func107 (by kernel_rfl) rfl _ (fun W r hm => U0 hm) (fun w' hbw => (open_1 (hP.sub hbw) (hok 1 (by decide)) 1 i _).mono fun e w'' hq => ⟨hq.1,hq.2.whole hU (hO _)⟩) hoy hwy
 ·refine Sj hP 2 i (by decide) Ab body.length cb 108 _ Try.func108 (by kernel_rfl) rfl _ (fun W r hm => U1 hm) (fun w' hbw => ?_) hoy hwy
  by_cases h2:(X.sd 0).end_.phase = 2
  ·refine (Wy (hP.sub hbw) 2 i _ (hl 0 (by decide)) h2).mono fun e w'' hq => ⟨hq.1,?_⟩
   have hm:=hq.2.whole hU (hS3 _ _)
   show CS _ B gp U (X.set 0 (GI (X.sd 0))) _
   unfold GI; rw [if_pos h2]; exact hm
  ·refine (Wx (hP.sub hbw) 2 i _ (hl 0 (by decide)) h2).mono fun e w'' hq => ⟨hq.1,?_⟩
   have hm:=hq.2.whole hU (hS3 _ _)
   show CS _ B gp U (X.set 0 (GI (X.sd 0))) _
   unfold GI; rw [if_neg h2]; exact hm
 ·refine Sm hP 2 i (by decide) Ab body.length cb 108 _ Try.func108 (by kernel_rfl) rfl _ (fun W r hm => U1 hm) (fun w' hbw => ?_) hoy hwy
  by_cases h2:(X.sd 1).end_.phase = 2
  ·refine (XA (hP.sub hbw) 2 i _ (hl 1 (by decide)) h2).mono fun e w'' hq => ⟨hq.1,?_⟩
   have hm:=hq.2.whole hU (hS3 _ _)
   show CS _ B gp U (X.set 1 (GI (X.sd 1))) _
   unfold GI; rw [if_pos h2]; exact hm
  ·refine (W9 (hP.sub hbw) 2 i _ (hl 1 (by decide)) h2).mono fun e w'' hq => ⟨hq.1,?_⟩
   have hm:=hq.2.whole hU (hS3 _ _)
   show CS _ B gp U (X.set 1 (GI (X.sd 1))) _
   unfold GI; rw [if_neg h2]; exact hm
 ·refine Sj hP 3 i (by decide) Ab body.length cb 109 _ Try.func109 (by kernel_rfl) rfl _ (fun W r hm => U3 hm) (fun w' hbw => ?_) hoy hwy
  by_cases hE:Bq (X.sd 0).end_ body.length = 0
  ·refine (Ws (hP.sub hbw) (hok 0 (by decide)) 3 i body Ab cb (hbody rfl 0 w' hbw) (hl 0 (by decide)) hE).mono fun e w'' hq => ⟨hq.1,?_⟩
   have hm:=hq.2.whole hU (hS3 _ _)
   show CS _ B gp U (X.set 0 (GH (X.sd 0) body)) _
   unfold GH; rw [if_pos hE]; exact hm
  ·refine (Wq (hP.sub hbw) (hok 0 (by decide)) 3 i body Ab cb (hbody rfl 0 w' hbw) (hl 0 (by decide)) hE).mono fun e w'' hq => ⟨hq.1,?_⟩
   have hm:=hq.2.whole hU (hS3 _ _)
   show CS _ B gp U (X.set 0 (GH (X.sd 0) body)) _
   unfold GH; rw [if_neg hE]; exact hm
 ·refine Sm hP 3 i (by decide) Ab body.length cb 109 _ Try.func109 (by kernel_rfl) rfl _ (fun W r hm => U3 hm) (fun w' hbw => ?_) hoy hwy
  by_cases hE:Bq (X.sd 1).end_ body.length = 0
  ·refine (Wv (hP.sub hbw) (hok 1 (by decide)) 3 i body Ab cb (hbody rfl 1 w' hbw) (hl 1 (by decide)) hE).mono fun e w'' hq => ⟨hq.1,?_⟩
   have hm:=hq.2.whole hU (hS3 _ _)
   show CS _ B gp U (X.set 1 (GH (X.sd 1) body)) _
   unfold GH; rw [if_pos hE]; exact hm
  ·refine (Wu (hP.sub hbw) (hok 1 (by decide)) 3 i body Ab cb (hbody rfl 1 w' hbw) (hl 1 (by decide)) hE).mono fun e w'' hq => ⟨hq.1,?_⟩
   have hm:=hq.2.whole hU (hS3 _ _)
   show CS _ B gp U (X.set 1 (GH (X.sd 1) body)) _
   unfold GH; rw [if_neg hE]; exact hm
 ·exact Sj hP 4 i (by decide) Ab body.length cb 110 _ Try.func110 (by kernel_rfl) rfl _ (fun W r hm => U4 hm) (fun w' hbw => (jf (hP.sub hbw) (hok 0 (by decide)) 4 i _).mono fun e w'' hq => ⟨hq.1,hq.2.whole hU (hO _)⟩) hoy hwy
 ·exact Sm hP 4 i (by decide) Ab body.length cb 110 _ Try.func110 (by kernel_rfl) rfl _ (fun W r hm => U4 hm) (fun w' hbw => (jg (hP.sub hbw) (hok 1 (by decide)) 4 i _).mono fun e w'' hq => ⟨hq.1,hq.2.whole hU (hO _)⟩) hoy hwy
 ·refine Sj hP 5 i (by decide) Ab body.length cb 111 _ Try.func111 (by kernel_rfl) rfl _ (fun W r hm => U5 hm) (fun w' hbw => ?_) hoy hwy
  have hb0:=lK 0 (by decide)
  by_cases hm:(X.sd 0).AB = 4294967295
  ·refine (Qb (hP.sub hbw) hU 5 i _ (by omega) hm).mono fun e w'' hq => ⟨?_,?_⟩
   ·rw [hq.1]; show _ = Ending.returned (.int .i64 (if (X.sd 0).AB = 4294967295 then 2 else 0)); rw [if_pos hm]
   ·show CS _ B gp U (X.set 0 (C9 (X.sd 0))) _
    unfold C9; rw [if_pos hm,set_self]; exact hq.2
  ·refine (Qc (hP.sub hbw) hU 5 i _ (by omega) (by omega) (hl 0 (by decide))).mono fun e w'' hq => ⟨?_,?_⟩
   ·rw [hq.1]; show _ = Ending.returned (.int .i64 (if (X.sd 0).AB = 4294967295 then 2 else 0)); rw [if_neg hm]
   ·show CS _ B gp U (X.set 0 (C9 (X.sd 0))) _
    unfold C9; rw [if_neg hm]; exact hq.2
 ·refine Sm hP 5 i (by decide) Ab body.length cb 111 _ Try.func111 (by kernel_rfl) rfl _ (fun W r hm => U5 hm) (fun w' hbw => ?_) hoy hwy
  have hb0:=lK 1 (by decide)
  by_cases hm:(X.sd 1).AB = 4294967295
  ·refine (Qd (hP.sub hbw) hU 5 i _ (by omega) hm).mono fun e w'' hq => ⟨?_,?_⟩
   ·rw [hq.1]; show _ = Ending.returned (.int .i64 (if (X.sd 1).AB = 4294967295 then 2 else 0)); rw [if_pos hm]
   ·show CS _ B gp U (X.set 1 (C9 (X.sd 1))) _
    unfold C9; rw [if_pos hm,set_self]; exact hq.2
  ·refine (Qe (hP.sub hbw) hU 5 i _ (by omega) (by omega) (hl 1 (by decide))).mono fun e w'' hq => ⟨?_,?_⟩
   ·rw [hq.1]; show _ = Ending.returned (.int .i64 (if (X.sd 1).AB = 4294967295 then 2 else 0)); rw [if_neg hm]
   ·show CS _ B gp U (X.set 1 (C9 (X.sd 1))) _
    unfold C9; rw [if_neg hm]; exact hq.2
theorem vI (kind side:Int) (j:Nat) (body:List Int) (Ab:Option Addr) (nb cb:Nat) (hb:LX X ⟨kind,side,(j:Int),body⟩ = 0) (hk6:¬ kind < 6) :
  Calls Try.prog 41 #[.pointer (some ⟨gp,0,none⟩),.agg #[.int .i64 kind,.int .i64 side,.int .i64 (j:Int),.slice Ab nb cb]] w fun e w' => e = .returned (.int .i64 0) ∧ CS w B gp U (BC (BC (Fv X ⟨kind,side,(j:Int),body⟩) 0) 1) w':=by
 have hact:=MX hI (by omega) hb
 have hoy:∀ s,s < 2 → ((Fv X ⟨kind,side,(j:Int),body⟩).sd s).end_.Ok:=fun s hs => (hact.side s hs).fine.ok
 have hwy:=hact.way
 obtain ⟨hk,_,hi⟩:=Gg hb
 have hj:j < X.way.length:=by have:=(hi (by show 6 ≤ kind; omega)).2; simpa using this
 have hw:=hI.p.way
 obtain ⟨ge,own,lv,wv,hP,hU⟩:=h
 have hkk:kind = 6 ∨ kind = 7 ∨ kind = 8:=by have:=hk.2; simp only at this; omega
 rcases hkk with rfl | rfl | rfl
 ·refine lg hP 6 side j (by decide) hj Ab nb cb 112 _ Try.func112 (by kernel_rfl) rfl _ (fun W r hm => ZU hm) (fun w' hbw => (XU (hP.sub hbw) hI hN j hj 6 side _).mono fun e w'' hq => ⟨hq.1,?_⟩) hoy hwy
  obtain ⟨S,hS,hM⟩:=hq.2
  exact hM.whole hU (fun k hk => (hS k hk).elim .inl (fun ⟨a,x⟩ => .inr (hU _ _ x)))
 ·exact lg hP 7 side j (by decide) hj Ab nb cb 113 _ Try.func113 (by kernel_rfl) rfl _ (fun W r hm => ZV hm) (fun w' hbw => (ji (hP.sub hbw) j hj hw 7 side _).mono fun e w'' hq => ⟨hq.1,hq.2.whole hU (fun k hk => .inl hk)⟩) hoy hwy
 ·exact lg hP 8 side j (by decide) hj Ab nb cb 114 _ Try.func114 (by kernel_rfl) rfl _ (fun W r hm => ZW hm) (fun w' hbw => (lQ (hP.sub hbw) j hj hw 8 side _).mono fun e w'' hq => ⟨hq.1,hq.2.whole hU (fun k hk => hk.elim .inl (fun x => .inr (hU _ _ x)))⟩) hoy hwy
theorem mD (a:Act) (Ab:Option Addr) (cb:Nat) (hC:a.kind = 3 → Zd w gp U Ab a.body) :
  Calls Try.prog 41 #[.pointer (some ⟨gp,0,none⟩),.agg #[.int .i64 a.kind,.int .i64 a.side,.int .i64 a.i,.slice Ab a.body.length cb]] w fun e w' => e = .returned (.int .i64 (Yj X a)) ∧ CS w B gp U (P8 X a) w':=by
 obtain ⟨kind,side,i,body⟩:=a
 by_cases hb:LX X ⟨kind,side,i,body⟩ = 0
 ·unfold Yj P8
  rw [if_pos hb,if_pos hb]
  by_cases hk6:kind < 6
  ·exact vH h hI hN kind side i body Ab cb hb hk6 hC
  ·obtain ⟨hk,_,hi⟩:=Gg hb
   have hi':=hi (by show 6 ≤ kind; omega)
   obtain ⟨j,hj⟩:∃ j:Nat,i = (j:Int):=⟨i.toNat,by have:(0:Int) ≤ i:=hi'.1; omega⟩
   subst hj
   have hE:Jh X ⟨kind,side,(j:Int),body⟩ = 0:=by
    unfold Jh
    rw [if_neg (show ¬ kind = 1 by omega),if_neg (show ¬ kind = 3 by omega),if_neg (show ¬ kind = 5 by omega)]
   rw [hE]
   exact vI h hI hN kind side j body Ab _ cb hb hk6
 ·unfold Yj P8
  rw [if_neg hb,if_neg hb]
  have hW:=h
  obtain ⟨ge,own,lv,wv,hP,hU⟩:=h
  unfold LX at hb ⊢
  split
  ·rename_i h1
   exact (uz hP kind side i h1 Ab _ cb).mono fun e w' hq => ⟨hq.1,CS.same hW hq.2⟩
  rename_i h1
  rw [if_neg h1] at hb
  have hkk:kind = 1 ∨ kind = 2 ∨ kind = 3 ∨ kind = 4 ∨ kind = 5 ∨ kind = 6 ∨ kind = 7 ∨ kind = 8:=by simp only at h1; omega
  have hlook:∃ fn:FuncId,∀ (W:World) (r:Nat),W.heap[r]? = some (.map ED 8) → (Instr.lookup 146 (.map (some r)) (.int .i64 kind) true).run Try.prog W = .ok (.tuple #[.func (.func fn) #[] #[],.bool true]) W:=by
   rcases hkk with rfl | rfl | rfl | rfl | rfl | rfl | rfl | rfl
   ·exact ⟨_,fun W r hm => U0 hm⟩
   ·exact ⟨_,fun W r hm => U1 hm⟩
   ·exact ⟨_,fun W r hm => U3 hm⟩
   ·exact ⟨_,fun W r hm => U4 hm⟩
   ·exact ⟨_,fun W r hm => U5 hm⟩
   ·exact ⟨_,fun W r hm => ZU hm⟩
   ·exact ⟨_,fun W r hm => ZV hm⟩
   ·exact ⟨_,fun W r hm => ZW hm⟩
  obtain ⟨fn,hlook⟩:=hlook
  split
  ·rename_i h2
   exact (vF hP kind side i fn h2.1 h2.2.1 h2.2.2 Ab _ cb hlook).mono fun e w' hq => ⟨hq.1,CS.same hW hq.2⟩
  rename_i h2
  rw [if_neg h2] at hb
  split
  ·rename_i h3
   exact (vG hP kind side i fn (by have:6 ≤ kind:=h3.1; omega) h3.2 Ab _ cb hlook).mono fun e w' hq => ⟨hq.1,CS.same hW hq.2⟩
  ·rename_i h3
   rw [if_neg h3] at hb
   exact absurd rfl hb
end
structure PP (w0:World) (gp:Nat) (X:Pr) (wr:World):Prop where
 whole:Whole wr w0.heap.size gp (fun k => w0.heap.size ≤ k) X
 below:Below w0.heap.size w0 wr
theorem PP.sub {w0 wr w1:World} {gp:Nat} {X:Pr} (h:PP w0 gp X wr) (hb:Below wr.heap.size wr w1):PP w0 gp X w1:=⟨h.whole.sub hb,h.below.trans (hb.mono h.below.size)⟩
theorem PP.gp {w0 wr:World} {gp:Nat} {X:Pr} (h:PP w0 gp X wr):w0.heap.size ≤ gp ∧ gp < wr.heap.size:=by
 obtain ⟨_,_,_,_,hP,_⟩:=h.whole
 exact ⟨hP.low,AQ hP.blk⟩
theorem PP.turn {w0 wr w1:World} {gp:Nat} {X Y:Pr} (h:PP w0 gp X wr) (ht:CS wr w0.heap.size gp (fun k => w0.heap.size ≤ k) Y w1):PP w0 gp Y w1 :=
 ⟨ht.1.mono (fun k hk => hk.elim id (fun x => Nat.le_trans h.below.size x)),h.below.trans ht.2.2⟩
theorem mF (w0 w:World) (hb:Below w0.heap.size w0 w):Calls Try.prog 44 #[] w fun e w' => e = .returned (.pointer (some ⟨w.heap.size,0,none⟩)) ∧ PP w0 w.heap.size Ip w' :=
 (fK w w0.heap.size hb.size).mono fun e w' hq => by
  obtain ⟨ge,own,he,hP,ho,hbl⟩:=hq
  exact ⟨he,⟨_,_,_,_,hP,fun i k hx => Nat.le_trans hb.size (ho i k hx)⟩,hb.trans hbl⟩
theorem U9 {w w':World} {A:Option Addr} {n:Nat} {xs:List Int} (h:(Kd.int .u8).C w A n xs) (hk:∀ k,k < w.heap.size → w'.heap[k]? = w.heap[k]?):(Kd.int .u8).C w' A n xs:=by
 refine ⟨h.1,h.2.1,fun hn => ?_⟩
 obtain ⟨ad,he,hc⟩:=h.2.2 hn
 refine ⟨ad,he,fun j p hj => ?_⟩
 obtain ⟨c,hs,hr,hcell⟩:=hc j p hj
 refine ⟨c,hs,hr,fun i u hu => ?_⟩
 have hx:=hcell i u hu
 have hlt:(ad.add (j * (Kd.int .u8).sz + i)).block < w.heap.size:=by
  by_cases hl:(ad.add (j * (Kd.int .u8).sz + i)).block < w.heap.size
  ·exact hl
  ·exfalso
   have hnone:w.heap[(ad.add (j * (Kd.int .u8).sz + i)).block]? = none:=Array.getElem?_eq_none (Nat.le_of_not_lt hl)
   unfold World.cell? at hx
   rw [hnone] at hx
   cases hx
 rw [World.cell?_of_block (hk _ hlt)]
 exact hx
theorem Vl {w0 wr:World} {gp N:Nat} {X:Pr} (h:PP w0 gp X wr) (hI:Inv X N) (hN:N ≤ 900000) (a:Act) (Ab:Option Addr) (cb:Nat) (hC:a.kind = 3 → (Kd.int .u8).C w0 Ab a.body.length a.body) :
  Calls Try.prog 41 #[.pointer (some ⟨gp,0,none⟩),.agg #[.int .i64 a.kind,.int .i64 a.side,.int .i64 a.i,.slice Ab a.body.length cb]] wr fun e w' => e = .returned (.int .i64 (Yj X a)) ∧ PP w0 gp (P8 X a) w':=by
 refine (mD h.whole hI hN a Ab cb (fun h3 W' hk => U9 (hC h3) (fun k hlt => ?_))).mono fun e w' hq => ⟨hq.1,h.turn hq.2⟩
 have gX:=h.gp
 have hz:=h.below.size
 rw [hk.2 k (by omega) (fun hx => by omega),h.below.block k hlt]
theorem vJ {w0 wr w1:World} {gp N:Nat} {X:Pr} (h:PP w0 gp X wr) (hb:Below wr.heap.size wr w1) (hI:Inv X N) (hN:N ≤ 900000) (a:Act) (Ab:Option Addr) (cb:Nat)
  (hC:∀ W':World,(∀ k,wr.heap.size ≤ k → k < w1.heap.size → W'.heap[k]? = w1.heap[k]?) → (Kd.int .u8).C W' Ab a.body.length a.body) :
  Calls Try.prog 41 #[.pointer (some ⟨gp,0,none⟩),.agg #[.int .i64 a.kind,.int .i64 a.side,.int .i64 a.i,.slice Ab a.body.length cb]] w1 fun e w' => e = .returned (.int .i64 (Yj X a)) ∧ PP w0 gp (P8 X a) w' ∧ ∀ k,wr.heap.size ≤ k → k < w1.heap.size → w'.heap[k]? = w1.heap[k]?:=by
 have gX:=h.gp
 have hz:=h.below.size
 have hz1:=hb.size
 have hW:Whole w1 w0.heap.size gp (fun k => w0.heap.size ≤ k ∧ k < wr.heap.size) X:=by
  obtain ⟨ge,own,lv,wv,hP,hU⟩:=h.whole
  exact ⟨ge,own,lv,wv,hP.sub hb,fun i k hx => ⟨hU i k hx,hP.lt i k hx⟩⟩
 refine (mD hW hI hN a Ab cb (fun h3 W' hk => hC W' (fun k h1 h2 => hk.2 k h2 (fun hx => by omega)))).mono fun e w' hq => ⟨hq.1,⟨hq.2.1.mono (fun k hk => ?_),(h.below.trans (hb.mono hz)).trans hq.2.2.2⟩,fun k h1 h2 => hq.2.2.1.2 k h2 (fun hx => by omega)⟩
 rcases hk with hk | hk
 ·exact hk.1
 ·show w0.heap.size ≤ k; omega
section
variable {w0 wr:World} {gp:Nat} {X:Pr} (h:PP w0 gp X wr)
include h
theorem PM:Calls Try.prog 43 #[.pointer (some ⟨gp,0,none⟩)] wr fun e w' => e = .returned (.int .i64 X.way.length) ∧ wr = w':=by
 obtain ⟨_,_,_,_,hP,_⟩:=h.whole
 exact Oz hP
theorem Ze (s:Nat) (hs:s < 2):Calls Try.prog 40 #[.pointer (some ⟨gp,0,none⟩),.int .i64 s] wr fun e w' => e = .returned (.int .i64 (X.sd s).end_.phase) ∧ wr = w':=by
 obtain ⟨_,_,_,_,hP,_⟩:=h.whole
 exact VT hP s hs
theorem mG {N:Nat} (hI:Inv X N) (hN:N ≤ 900000) (s:Nat) (hs:s < 2):Calls Try.prog 38 #[.pointer (some ⟨gp,0,none⟩),.int .i64 s] wr fun e w' => ∃ v,e = .returned v ∧ Fb.R 67 w' w0.heap.size (fun k => wr.heap.size ≤ k) v (X.sd s).log ∧ Below wr.heap.size wr w':=by
 exact Z40
end
end Go.Proofs.Ytnkkgofpifhoeaa.Pr
end
section
namespace Go.Proofs.Ytnkkgofpifhoeaa.Pr
open Go.RowKit Go.Proofs.Ytnkkgofpifhoeaa.Base Go.Proofs.Ytnkkgofpifhoeaa.Steps Go.Proofs.Ytnkkgofpifhoeaa.Lk Go.Proofs.Ytnkkgofpifhoeaa.Fg Go.Proofs.YtnkkgofpifhoeaaW.PrintWords Go.Proofs.YtnkkgofpifhoeaaW.PrintLast
def vK:Pr:=P8 Ip ⟨1,0,0,[]⟩
def al:Nat → Pr
 | 0 => P8 vK ⟨1,1,0,[]⟩
 | n + 1 => P8 (al n) ⟨6,0,0,[]⟩
def xA:Pr:=P8 (al 6) ⟨3,0,0,[120]⟩
def oK:Pr:=P8 xA ⟨6,0,0,[]⟩
theorem Vm:Inv vK 1:=J8 Kq (by decide) _
theorem Qg:∀ n,n ≤ 6 → Inv (al n) (n + 2)
 | 0,_ => J8 Vm (by decide) _
 | n + 1,h => J8 (Qg n (by omega)) (by omega) _
theorem Vo:Inv xA 9:=J8 (Qg 6 (by decide)) (by decide) _
theorem dU:Inv oK 10:=J8 Vo (by decide) _
theorem mJ:∀ n,n < 6 → 0 < (al n).way.length:=by
 intro n hn
 match n,hn with
 | 0,_ => decide
 | 1,_ => decide
 | 2,_ => decide
 | 3,_ => decide
 | 4,_ => decide
 | 5,_ => decide
theorem mM:(al 6).way.length = 0:=by decide
section
variable {w0 wr:World} {gp:Nat}
theorem Zf (h:PP w0 gp Ip wr):Calls Try.prog 41 #[.pointer (some ⟨gp,0,none⟩),.agg #[.int .i64 1,.int .i64 0,.int .i64 0,.slice none 0 0]] wr fun e w' => e = .returned (.int .i64 0) ∧ PP w0 gp vK w' :=
 (Vl h Kq (by decide) ⟨1,0,0,[]⟩ none 0 (fun x => absurd x (by decide))).mono fun e w' hq => ⟨hq.1.trans (by rw [show Yj Ip ⟨1,0,0,[]⟩ = 0 by decide]),hq.2⟩
theorem Zg (h:PP w0 gp vK wr):Calls Try.prog 41 #[.pointer (some ⟨gp,0,none⟩),.agg #[.int .i64 1,.int .i64 1,.int .i64 0,.slice none 0 0]] wr fun e w' => e = .returned (.int .i64 0) ∧ PP w0 gp (al 0) w' :=
 (Vl h Vm (by decide) ⟨1,1,0,[]⟩ none 0 (fun x => absurd x (by decide))).mono fun e w' hq => ⟨hq.1.trans (by rw [show Yj vK ⟨1,1,0,[]⟩ = 0 by decide]),hq.2⟩
theorem dV (n:Nat) (hn:n < 6) (h:PP w0 gp (al n) wr):Calls Try.prog 41 #[.pointer (some ⟨gp,0,none⟩),.agg #[.int .i64 6,.int .i64 0,.int .i64 0,.slice none 0 0]] wr fun e w' => (∃ E:Int,e = .returned (.int .i64 E)) ∧ PP w0 gp (al (n + 1)) w' :=
 (Vl h (Qg n (by omega)) (by omega) ⟨6,0,0,[]⟩ none 0 (fun x => absurd x (by decide))).mono fun e w' hq => ⟨⟨_,hq.1⟩,hq.2⟩
theorem dW {w1:World} (h:PP w0 gp (al 6) wr) (hb:w1 = wr.alloc (.cells #[.int .u8 120] 5 (1,2))):Calls Try.prog 41 #[.pointer (some ⟨gp,0,none⟩),.agg #[.int .i64 3,.int .i64 0,.int .i64 0,.slice (some ⟨wr.heap.size,0,none⟩) 1 1]] w1 fun e w' => e = .returned (.int .i64 0) ∧ PP w0 gp xA w':=by
 subst hb
 refine (vJ h ((Below.refl _ _).alloc (Nat.le_refl _) _) (Qg 6 (by decide)) (by decide) ⟨3,0,0,[120]⟩ (some ⟨wr.heap.size,0,none⟩) 1 (fun W' hW => ?_)).mono fun e w' hq => ⟨hq.1.trans (by rw [show Yj (al 6) ⟨3,0,0,[120]⟩ = 0 by decide]),hq.2.1⟩
 have hx:=hW wr.heap.size (Nat.le_refl _) (by simp)
 have hblk:W'.heap[wr.heap.size]? = some (.cells #[.int .u8 120] 5 (1,2)):=hx.trans (heap_alloc_new wr _)
 refine ⟨rfl,by decide,fun _ => ⟨_,rfl,fun j p hj => ⟨[.int .u8 p],rfl,rfl,fun i u hu => ?_⟩⟩⟩
 have hj0:j = 0:=by
  by_cases h:j = 0
  ·exact h
  ·rw [List.getElem?_eq_none (by simp; omega)] at hj; cases hj
 subst hj0
 have hi0:i = 0:=by
  by_cases h:i = 0
  ·exact h
  ·rw [List.getElem?_eq_none (by simp; omega)] at hu; cases hu
 subst hi0
 have hp:(120:Int) = p:=Option.some.inj hj
 subst hp
 have hu':Value.int .u8 120 = u:=Option.some.inj hu
 subst hu'
 show W'.cell? ⟨wr.heap.size,0,none⟩ = _
 rw [World.cell?_of_block (w:=wr.alloc (.cells #[.int .u8 120] 5 (1,2))) (a:=⟨wr.heap.size,0,none⟩) hx]
 exact World.cell?_alloc_mark wr #[.int .u8 120] 5 (1,2) 0
theorem dX (h:PP w0 gp xA wr):Calls Try.prog 41 #[.pointer (some ⟨gp,0,none⟩),.agg #[.int .i64 6,.int .i64 0,.int .i64 0,.slice none 0 0]] wr fun e w' => (∃ E:Int,e = .returned (.int .i64 E)) ∧ PP w0 gp oK w' :=
 (Vl h Vo (by decide) ⟨6,0,0,[]⟩ none 0 (fun x => absurd x (by decide))).mono fun e w' hq => ⟨⟨_,hq.1⟩,hq.2⟩
theorem dY:(oK.sd 1).log = [⟨1,1,1,1,1,[]⟩,⟨4,1,1,1,1,[120]⟩]:=by rfl
theorem mO (h:PP w0 gp oK wr):Calls Try.prog 38 #[.pointer (some ⟨gp,0,none⟩),.int .i64 1] wr fun e w' => ∃ g c A cb,e = .returned (.slice (some ⟨g,0,none⟩) 2 c) ∧ w'.cell? ⟨g,6,none⟩ = some (.int .i64 4) ∧ w'.cell? ⟨g,11,none⟩ = some (.slice A 1 cb) ∧ (Kd.int .u8).C w' A 1 [120] ∧ Below wr.heap.size wr w':=by
 refine (mG h dU (by decide) 1 (by decide)).mono fun e w' hq => ?_
 obtain ⟨v,he,hR,hb⟩:=hq
 rw [dY] at hR
 obtain ⟨g,cap,hv,_⟩:=Kd.Jt hR (by decide)
 subst hv
 obtain ⟨cs,hl,hM,hc,_⟩:=Kd.NI hR Gs 1 (by decide) (by decide)
 obtain ⟨b,hcs,hRb⟩:=Jp.1 hM
 obtain ⟨Ab,cb,hbv⟩:=Kd.Am hRb
 subst hbv
 subst hcs
 exact ⟨g,cap,Ab,cb,he,hc 0 _ rfl,hc 5 _ rfl,(Kd.Bi hRb).2.2,hb⟩
theorem Zh (h:PP w0 gp oK wr):Calls Try.prog 40 #[.pointer (some ⟨gp,0,none⟩),.int .i64 0] wr fun e w' => e = .returned (.int .i64 2) ∧ wr = w' :=
 (Ze h 0 (by decide)).mono fun e w' hq => ⟨hq.1.trans (by rw [show (oK.sd 0).end_.phase = 2 by decide]),hq.2⟩
end
theorem str1:strOfNums [120] = (⟨#[120]⟩:ByteArray):=by first | rfl | decide
theorem dZ (w:World):Calls Try.prog 35 #[] w fun e w' => e = .returned (.bool true) ∧ Below w.heap.size w w':=by
 go_enter Try.func35,Try.ntmps35
 go_wp2_with (first | (go_at_call 44; (have hc:=mF w w (Below.refl _ _)); (with_reducible refine hc.mono ?_); clear hc; rintro e w1 ⟨rfl,h⟩; (have EU:=Lib.hid h); clear h) | (go_at_call 41; (have hc:=Zf EU.out); (with_reducible refine hc.mono ?_); clear hc; rintro e w2 ⟨rfl,h⟩; (have HP2:=Lib.hid h); clear h) | (go_at_call 41; (have hc:=Zg HP2.out); (with_reducible refine hc.mono ?_); clear hc; rintro e w3 ⟨rfl,h⟩; (have XR:=Lib.hid h); clear h))
 generalize gX:w.heap.size = gp at *
 have HGP:=Lib.hid gX
 clear gX
 go_loopg [2] 6 (fun m v wr => ∃ i:Nat,m = 6 - i ∧ i ≤ 6 ∧ v = .int .i64 (i:Int) ∧ PP w gp (al i) wr)
 case atStart => exact ⟨0,rfl,by decide,rfl,XR.out⟩
 case round =>
  obtain ⟨i,hm,hin,rfl,hP⟩:=hrel
  have HM:=Lib.hid hm
  have dO:=Lib.hid hin
  have HP:=Lib.hid hP
  clear hm hin hP
  have hd:decide ((i:Int) < 50) = true:=by have:=dO.out; simp; omega
  by_cases hlt:i < 6
  ·have WS:=Lib.hid hlt
   have HW:=Lib.hid (mJ i hlt)
   have Zi:=PM HP.out
   have HC:=Lib.hid Zi
   clear Zi
   generalize (al i).way.length = n at HW HC
   have hd2:decide ((n:Int) > 0) = true:=by have:=HW.out; simp; omega
   have hd3:decide (0 < n) = true:=by have:=HW.out; simp; omega
   have hn0:=HW.out
   go_wp2_with (first | (go_at_call 43; (have hc:=HC.out); (with_reducible refine hc.mono ?_); clear hc; rintro e w9 ⟨rfl,rfl⟩; skip) | (go_at_call 41; (have hc:=dV i WS.out HP.out); (with_reducible refine hc.mono ?_); clear hc; rintro e w5 ⟨⟨E,rfl⟩,h⟩; (have HPN:=Lib.hid h); clear h))
   go_roundg (6 - (i + 1))
   case measure => have:=HM.out; have:=WS.out; omega
   case rel => exact ⟨i + 1,rfl,by have:=WS.out; omega,by first | rfl | simp,HPN.out⟩
  ·have hi6:i = 6:=by have:=dO.out; omega
   subst hi6
   have HC:=Lib.hid (by have Zi:=PM HP.out; rw [mM] at Zi; exact Zi:Calls Try.prog 43 #[.pointer (some ⟨gp,0,none⟩)] wr fun e w' => e = .returned (.int .i64 (0:Nat)) ∧ wr = w')
   have hconv:=Lib.run_convert_bytes_const (P:=Try.prog) wr 22 5 #[.int .u8 120] 1 1 Try.underlying22 Try.underlying5
   go_wp2_with (first | (go_at_call 43; (have hc:=HC.out); (with_reducible refine hc.mono ?_); clear hc; rintro e w9 ⟨rfl,rfl⟩; skip) | (go_at_call 41; (have hc:=dW HP.out rfl); (with_reducible refine hc.mono ?_); clear hc; rintro e w5 ⟨rfl,h⟩; (have lu:=Lib.hid h); clear h hconv) | (go_at_call 41; (have hc:=dX lu.out); (with_reducible refine hc.mono ?_); clear hc; rintro e w6 ⟨⟨E,rfl⟩,h⟩; (have HP6:=Lib.hid h); clear h) | (go_at_call 38; (have hc:=mO HP6.out); (with_reducible refine hc.mono ?_); clear hc; rintro e w7 ⟨g,c,A,cb,rfl,h1,h2,h3,h4⟩; (have oI:=Lib.hid h3); (have HP7:=Lib.hid (HP6.out.sub h4)); (have hcv:=Kd.NJ (P:=Try.prog) (dst:=9) (c:=cb) Try.underlying22 Try.underlying5 Try.underlying9 h3); (rw [str1] at hcv); clear h3 h4) | (go_at_call 40; (have hc:=Zh HP7.out); (with_reducible refine hc.mono ?_); clear hc; rintro e w9 ⟨rfl,rfl⟩; skip))
   all_goals (go_ret; exact ⟨rfl,HP7.out.below⟩)
def act:Kd Act:=Kd.wI (Kd.pair (Kd.int .i64) (Kd.pair (Kd.int .i64) (Kd.pair (Kd.int .i64) Lk.bytes))) (fun a => (a.kind,a.side,a.i,a.body))
def Zj (a:Act) (b:Value):List Value:=[.int .i64 a.kind,.int .i64 a.side,.int .i64 a.i,b]
theorem mP:act.sz = 4:=rfl
theorem Zk {w:World} {a:Act} {cs:List Value}:act.K w a cs ↔ ∃ A c,cs = Zj a (.slice A a.body.length c) ∧ a.body.length ≤ c ∧ (Kd.int .u8).C w A a.body.length a.body:=by
 constructor
 ·rintro ⟨_,_,rfl,rfl,_,_,rfl,rfl,_,_,rfl,rfl,A,c,rfl,h1,h2⟩
  exact ⟨A,c,rfl,h1,h2⟩
 ·rintro ⟨A,c,rfl,h1,h2⟩
  exact ⟨_,_,rfl,rfl,_,_,rfl,rfl,_,_,rfl,rfl,A,c,rfl,h1,h2⟩
def nilA:Act:=⟨0,0,0,[]⟩
theorem Sr {w:World} {A:Option Addr} {n:Nat} {l:List Act} (h:act.C w A n l) (i:Nat) (hi:i < n) :
  ∃ g o Ab cb,A = some ⟨g,o,none⟩ ∧ n = l.length ∧ w.rangeAt g (o + i * 4) (Zj (l.getD i nilA) (.slice Ab (l.getD i nilA).body.length cb)) ∧ (Kd.int .u8).C w Ab (l.getD i nilA).body.length (l.getD i nilA).body:=by
 obtain ⟨hn,hm,hc⟩:=h
 obtain ⟨⟨g,o,sp⟩,he,hcell⟩:=hc (by omega)
 have hsp:sp = none:=by
  obtain ⟨c,hl,hK,hcc⟩:=hcell 0 _ (List.getElem?_eq_getElem (show 0 < l.length by omega))
  obtain ⟨A',c',hcs,_,_⟩:=Zk.1 hK
  have h0:=hcc 0 (.int .i64 (l[0]'(by omega)).kind) (by rw [hcs]; rfl)
  rw [show 0 * act.sz + 0 = 0 by simp] at h0
  cases sp with
  | none => rfl
  | some s =>
   exfalso
   unfold World.cell? Addr.add at h0
   rw [if_pos rfl] at h0
   cases hb:w.heap[g]? with
   | none => rw [hb] at h0; cases h0
   | some ob =>
    rw [hb] at h0
    cases ob <;> simp at h0
 subst hsp
 obtain ⟨c,hl,hK,hcc⟩:=hcell i _ (List.getElem?_eq_getElem (show i < l.length by omega))
 obtain ⟨Ab,cb,hcs,hle,hC⟩:=Zk.1 hK
 have hg:l.getD i nilA = l[i]'(by omega):=by rw [List.getD_eq_getElem?_getD,List.getElem?_eq_getElem (show i < l.length by omega)]; rfl
 rw [hg]
 refine ⟨g,o,Ab,cb,he,hn.symm,fun j v hv => ?_,hC⟩
 have:=hcc j v (by rw [hcs]; exact hv)
 rw [mP] at this
 unfold Addr.add at this
 by_cases hz:i * 4 + j = 0
 ·rw [if_pos hz] at this
  have e:o + i * 4 + j = o:=by omega
  rw [e]; exact this
 ·rw [if_neg hz] at this
  have e:o + i * 4 + j = o + (i * 4 + j):=by omega
  rw [e]; exact this
def gY (l:List Act):Prop:=l.length ≤ 400 ∧ ∀ a ∈ l,a.body.length ≤ 1100
theorem fits_all {l:List Act} (hl:l.length ≤ 400) (h:∀ j,j < l.length → (l.getD j nilA).body.length ≤ 1100):gY l:=⟨hl,fun a ha => by
 obtain ⟨j,hj,rfl⟩:=List.mem_iff_getElem.1 ha
 have:=h j hj
 rwa [List.getD_eq_getElem?_getD,List.getElem?_eq_getElem hj] at this⟩
def vM (l:List Act) (e:Ending):Prop:=∃ b,e = .returned (.bool b) ∧ (b = true → gY l)
theorem mQ (w:World) (A:Option Addr) (n c:Nat) (l:List Act) (h:act.C w A n l):Calls Try.prog 36 #[.slice A n c] w fun e w' => vM l e ∧ w = w':=by
 have H:=Lib.hid h
 have HN:=Lib.hid h.1
 have HM:=Lib.hid h.2.1
 clear h
 by_cases h4:n ≤ 400
 ·have hd4:decide ((n:Int) > 400) = false:=by simp; omega
  have H4:=Lib.hid h4
  go_enter Try.func36,Try.ntmps36
  go_wp2_with fail
  go_loop [3] (fun v => ∃ i:Nat,i ≤ n ∧ v = .int .i64 (i:Int) ∧ ∀ j,j < i → (l.getD j nilA).body.length ≤ 1100) (fun v => n - (intOf v).toNat)
  case atStart => exact ⟨0,Nat.zero_le _,rfl,fun j hj => absurd hj (by omega)⟩
  case round =>
   obtain ⟨i,hin,rfl,hall⟩:=hrel
   have dO:=Lib.hid hin
   have vN:=Lib.hid hall
   clear hin hall
   have hn4:=H4.out
   by_cases hlt:i < n
   ·have hd:decide ((i:Int) < (n:Int)) = true:=by simp [hlt]
    obtain ⟨g,o,Ab,cb,hA,_,hrg,_⟩:=Sr H.out i hlt
    subst hA
    have hc3:w.cell? ⟨g,o + i * 4 + 3,none⟩ = some (.slice Ab (l.getD i nilA).body.length cb):=hrg 3 _ rfl
    clear hrg
    generalize hb:(l.getD i nilA).body.length = nb at *
    have HB:=Lib.hid hb
    clear hb
    by_cases h11:nb ≤ 1100
    ·have hd11:decide ((nb:Int) > 1100) = false:=by simp; omega
     go_wp2_with fail
     go_round
     case rel => exact ⟨i + 1,by omega,by go_num,fun j hj => by
      by_cases hji:j = i
      ·subst hji; rw [HB.out]; exact h11
      ·exact vN.out j (by omega)⟩
     case measure => simp [intOf]; omega
    ·have hd11:decide ((nb:Int) > 1100) = true:=by simp; omega
     go_wp2_with fail
     all_goals (go_ret; exact ⟨⟨false,rfl,fun hf => absurd hf (by decide)⟩,rfl⟩)
   ·have hd:decide ((i:Int) < (n:Int)) = false:=by simp; omega
    have hie:i = n:=by have:=dO.out; omega
    subst hie
    go_wp2_with fail
    all_goals (go_ret; exact ⟨⟨true,rfl,fun _ => fits_all (by rw [HN.out]; exact H4.out) (by rw [HN.out]; exact vN.out)⟩,rfl⟩)
 ·have hd4:decide ((n:Int) > 400) = true:=by simp; omega
  go_enter Try.func36,Try.ntmps36
  go_wp2_with fail
  all_goals (go_ret; exact ⟨⟨false,rfl,fun hf => absurd hf (by decide)⟩,rfl⟩)
theorem Zl (X:Pr) (l:List Act) (i:Nat) (hi:i < l.length):LY X (l.take (i + 1)) = P8 (LY X (l.take i)) (l.getD i nilA):=by
 unfold LY
 rw [List.take_add_one,List.foldl_append,List.getD_eq_getElem?_getD,List.getElem?_eq_getElem hi]
 rfl
theorem Su {w w1:World} {A:Option Addr} {n:Nat} {l:List Act} (h:act.C w A n l) (hb:Below w.heap.size w w1):act.C w1 A n l:=Kd.Cm h hb
theorem Zm {w:World} {B:Nat} {ok:Nat → Prop} {A:Option Addr} {n c:Nat} {l:List Ei} (h:Fb.R 67 w B ok (.slice A n c) l) (i:Nat) (hi:i < n) :
  ∃ g Ab cb,A = some ⟨g,0,none⟩ ∧ n = l.length ∧ w.rangeAt g (i * 6) (D8 (l.getD i Gs) (.slice Ab (l.getD i Gs).body.length cb)) ∧ (Kd.int .u8).C w Ab (l.getD i Gs).body.length (l.getD i Gs).body:=by
 obtain ⟨hn,hnc,hC⟩:=Kd.Bi h
 obtain ⟨gx,cap,he,_⟩:=Kd.Jt h (by omega)
 injection he with h1 h2 h3
 subst h1
 obtain ⟨cs,hl,hM,hc,_⟩:=Kd.NI h Gs (i:Int) (by omega) (by omega)
 obtain ⟨b,hcs,hRb⟩:=Jp.1 hM
 obtain ⟨Ab,cb,hbv⟩:=Kd.Am hRb
 subst hbv
 subst hcs
 refine ⟨gx,Ab,cb,rfl,hn,fun j u hu => ?_,(Kd.Bi hRb).2.2⟩
 have:=hc j u hu
 simpa [jT] using this
end Go.Proofs.Ytnkkgofpifhoeaa.Pr
end
section
namespace Go.Proofs.Ytnkkgofpifhoeaa.Rf
open Go.RowKit Go.Proofs.Ytnkkgofpifhoeaa.Base Go.Proofs.Ytnkkgofpifhoeaa.Steps Go.Proofs.Ytnkkgofpifhoeaa.Lk Go.Proofs.YtnkkgofpifhoeaaW.PrintWords Go.Proofs.YtnkkgofpifhoeaaW.PrintLast
theorem vO {S:Nat → Prop} {w:World} {B:Nat} {ok:Nat → Prop} {A A2:Option Addr} {n c c2:Nat} {l:List Pr.Ei} (h:Pr.Fb.R 67 w B ok (.slice A n c) l) (h2:qh.L S w A2 l.length l) (hc2:l.length ≤ c2) (hl:l.length ≤ 1000000) :
  Calls Try.prog 48 #[.slice A n c,.slice A2 l.length c2] w fun e w' => e = .returned (.bool true) ∧ ∃ k,w' = w.drewN k:=by
 have hnl:=(Kd.Bi h).1
 have hnc:=(Kd.Bi h).2.1
 have H:=Lib.hid h
 have H2:=Lib.hid h2
 rw [← hnl]
 have jB:=Lib.hid hnl
 have oG:(n:Int) ≤ 1000000:=by omega
 have hu64:=Try.underlying64
 have rD:=Try.underlying67
 have AFz:=Try.underlying80
 have Ff:=Try.underlying156
 clear h h2 hnl hl hnc hc2
 go_enter Try.func48,Try.ntmps48
 go_wp2_with fail
 go_loopw [5] (fun v wr => ∃ (i k:Nat),i ≤ n ∧ v = .int .i64 (i:Int) ∧ wr = w.drewN k) (fun v _ => n - (intOf v).toNat)
 case atStart => exact ⟨0,0,Nat.zero_le _,rfl,rfl⟩
 case round =>
  obtain ⟨i,k,hin,rfl,rfl⟩:=hrel
  have dO:=Lib.hid hin
  by_cases hlt:i < n
  ·have hd:decide ((i:Int) < (n:Int)) = true:=by simp [hlt]
   have zq:(i:Int) < (n:Int):=by omega
   obtain ⟨g,Ab,cb,hA,-,hrg,hb⟩:=Pr.Zm H.out i hlt
   obtain ⟨g2,o2,r,hA2,-,⟨Ab2,cb2,hr,hlb,J5⟩,hrg2⟩:=H2.out.el (by decide) i (by rw [← jB.out]; exact hlt) Pr.Gs
   subst hA hA2 hr
   generalize hx:l.getD i Pr.Gs = x at *
   clear hx
   have k0:w.cell? ⟨g,i * 6,none⟩ = some (.int .i64 x.kind):=hrg 0 _ rfl
   have k1:w.cell? ⟨g,i * 6 + 1,none⟩ = some (.int .u32 x.AB):=hrg 1 _ rfl
   have k2:w.cell? ⟨g,i * 6 + 2,none⟩ = some (.int .u32 x.mine):=hrg 2 _ rfl
   have k3:w.cell? ⟨g,i * 6 + 3,none⟩ = some (.int .u32 x.peer):=hrg 3 _ rfl
   have k4:w.cell? ⟨g,i * 6 + 4,none⟩ = some (.int .u32 x.yours):=hrg 4 _ rfl
   have k5:w.cell? ⟨g,i * 6 + 5,none⟩ = some (.slice Ab x.body.length cb):=hrg 5 _ rfl
   have m0:w.cell? ⟨g2,o2 + i * 6,none⟩ = some (.int .i64 x.kind):=hrg2 0 _ rfl
   have m1:w.cell? ⟨g2,o2 + i * 6 + 1,none⟩ = some (.int .u32 x.AB):=hrg2 1 _ rfl
   have m2:w.cell? ⟨g2,o2 + i * 6 + 2,none⟩ = some (.int .u32 x.mine):=hrg2 2 _ rfl
   have m3:w.cell? ⟨g2,o2 + i * 6 + 3,none⟩ = some (.int .u32 x.peer):=hrg2 3 _ rfl
   have m4:w.cell? ⟨g2,o2 + i * 6 + 4,none⟩ = some (.int .u32 x.yours):=hrg2 4 _ rfl
   have m5:w.cell? ⟨g2,o2 + i * 6 + 5,none⟩ = some (.slice Ab2 x.body.length cb2):=hrg2 5 _ rfl
   have q5:=fun m:Nat => Kd.NJ (P:=Try.prog) (dst:=9) (c:=cb) Try.underlying22 Try.underlying5 Try.underlying9 (Kd.VD hb m)
   have q6:=fun m:Nat => Kd.NJ (P:=Try.prog) (dst:=9) (c:=cb2) Try.underlying22 Try.underlying5 Try.underlying9 (Kd.VD J5.1 m)
   generalize strOfNums x.body = sx at *
   clear hrg hrg2 hb J5 hlb
   go_wp2_with fail
   go_quiet (fail)
   go_wp2_with fail
   all_goals (
    go_roundw
    case rel => exact ⟨i + 1,_,by omega,by go_num,rfl⟩
    case measure => simp [intOf]; omega)
  ·have hd:decide ((i:Int) < (n:Int)) = false:=by simp; omega
   go_wp2_with fail
   all_goals (go_ret; exact ⟨rfl,_,rfl⟩)
end Go.Proofs.Ytnkkgofpifhoeaa.Rf
end
section
namespace Go.Proofs.Ytnkkgofpifhoeaa.Pr
open Go.Proofs.Ytnkkgofpifhoeaa.Lk
def Zn (X:Pr):Prop:=∀ s,s < 2 → Wn (X.sd s).end_
theorem dh {L:Lk} (h:Wn L) (ho:L.out = []) {b:Int} {p:Bz} {L':Lk} {t:Tk} (hc:JA L b p L' t):Wn L':=by
 cases hc with
 | none _ => exact h
 | up h1 hk ha hm hss hy => rw [hy]; exact JU (L:={ Cc L b p with phase:=2 }) ⟨h.full,h.idle⟩ _
 | learn h1 hk ha hm hss hy => rw [hy]; exact JU (L:=Cc L b p) ⟨h.full,h.idle⟩ _
 | again h2 hk ha h0 hss hy => rw [hy]; exact JU h _
 | last h2 hk ha ht => exact IC rfl rfl h.idle
 | anew h2 hk ha ht hss hy => rw [hy]; exact JU (IC (L:=Cc (CB L) b p) rfl rfl (by show 0 ≤ (0:Int) ∧ (0:Int) ≤ 2; decide)) _
 | signal h2 hk ha hm k hkk hx hy => rw [hy] at hx ⊢; exact (kD h ho p hkk hx).1
theorem Ie {X:Pr} (h:Zn X) {s:Nat} {d:Sd} (hd:Wn d.end_):Zn (X.set s d):=fun t ht => by
 by_cases hts:t = s
 ·subst hts; rw [Pr.Ae]; exact hd
 ·rw [Pr.BP X hts]; exact h t ht
theorem di {X:Pr} {N:Nat} (hI:Inv X N) (h:Zn X) {a:Act} (hb:LX X a = 0):Zn (Fv X a):=by
 obtain ⟨hk,hsd,hi⟩:=Gg hb
 unfold Fv
 have hside:a.kind < 6 → a.side.toNat < 2:=fun h => by have:=hsd h; omega
 split
 ·have hw:=h _ (hside (by omega))
  refine Ie h (show Wn (DN (X.sd a.side.toNat).end_) from ?_)
  unfold DN
  split
  ·exact JU (IC (L:=CB (X.sd a.side.toNat).end_) rfl rfl (by show 0 ≤ (0:Int) ∧ (0:Int) ≤ 2; decide)) _
  ·exact hw
 split
 ·have hw:=h _ (hside (by omega))
  have he:(GI (X.sd a.side.toNat)).end_ = Aa (X.sd a.side.toNat).end_:=by unfold GI; split <;> rfl
  exact Ie h (by rw [he]; exact IC rfl rfl hw.idle)
 split
 ·have hs:=hside (by omega)
  have he:(GH (X.sd a.side.toNat) a.body).end_ = Be (X.sd a.side.toNat).end_ a.body:=by unfold GH; split <;> rfl
  exact Ie h (by rw [he]; exact bg (h _ hs) (hI.out _ hs) _)
 split
 ·exact Ie h (bZ (h _ (hside (by omega))))
 split
 ·have hs:=hside (by omega)
  by_cases hm:(X.sd a.side.toNat).AB = 4294967295
  ·have e1:C9 (X.sd a.side.toNat) = X.sd a.side.toNat:=if_pos hm
   rw [e1]; exact Ie h (h _ hs)
  ·have e1:(C9 (X.sd a.side.toNat)).end_ = newL ((X.sd a.side.toNat).AB + 1):=by unfold C9; rw [if_neg hm]
   exact Ie h (by rw [e1]; exact IC rfl rfl (by show 0 ≤ (0:Int) ∧ (0:Int) ≤ 2; decide))
 split
 ·obtain ⟨hi0,hil⟩:=hi (by omega)
  have hf:=hI.p.fl (X.way.getD a.i.toNat DI) (by
   rw [List.getD_eq_getElem?_getD,List.getElem?_eq_getElem hil]
   exact List.getElem_mem hil)
  unfold Gn
  generalize X.way.getD a.i.toNat DI = f at *
  have hs:f.dst.toNat < 2:=by have:=hf.dst; omega
  have hc:=(IA (hI.p.side _ hs).fine.ok (hI.out _ hs) f.AB f.p).1
  have he:(DW (X.sd f.dst.toNat) (Bf (X.sd f.dst.toNat).end_ f.AB f.p)).end_ = (Bf (X.sd f.dst.toNat).end_ f.AB f.p).1:=by
   unfold DW
   split
   ·rfl
   ·split
    ·rfl
    ·split <;> rfl
  exact Ie (X:={ X with way:=X.way.eraseIdx a.i.toNat }) h (by rw [he]; exact dh (h _ hs) (hI.out _ hs) hc)
 split
 ·exact h
 ·intro t ht
  rw [MS]
  exact h t ht
theorem Sv {X:Pr} (h:Zn X) (s:Nat):Zn (BC X s):=fun t ht => by
 rw [IZ]
 split
 ·rename_i he
  subst he
  exact ⟨(h t ht).full,(h t ht).idle⟩
 ·exact h t ht
theorem mV {X:Pr} {N:Nat} (hI:Inv X N) (h:Zn X) (a:Act):Zn (P8 X a):=by
 unfold P8
 split
 ·rename_i hb
  exact Sv (Sv (di hI h hb) 0) 1
 ·exact h
theorem dm:Zn Ip:=fun s hs => IC rfl rfl (by show 0 ≤ (0:Int) ∧ (0:Int) ≤ 2; decide)
theorem dw (l:List Act):∀ {X:Pr} {N:Nat},Inv X N → Zn X → N + l.length < 4294967295 → Zn (LY X l):=by
 induction l with
 | nil => exact fun _ h _ => h
 | cons a l ih =>
  intro X N hI h hN
  simp only [List.length_cons] at hN
  exact ih (J8 hI (by omega) a) (mV hI h a) (by omega)
end Go.Proofs.Ytnkkgofpifhoeaa.Pr
end
section
namespace Go.Proofs.Ytnkkgofpifhoeaa.Pr
open Go.RowKit Go.Proofs.Ytnkkgofpifhoeaa.Base Go.Proofs.Ytnkkgofpifhoeaa.Lk Go.Proofs.Ytnkkgofpifhoeaa.Fg Go.Proofs.YtnkkgofpifhoeaaW.PrintWords
structure QP (w0:World) (gp:Nat) (U:Nat → Prop) (X:Pr) (wr:World):Prop where
 whole:Whole wr w0.heap.size gp U X
 low:∀ k,k = gp ∨ U k → w0.heap.size ≤ k ∧ k < wr.heap.size
 below:Below w0.heap.size w0 wr
def Sz (U:Nat → Prop) (w w':World):Nat → Prop:=fun k => U k ∨ (w.heap.size ≤ k ∧ k < w'.heap.size)
section
variable {w0 wr w1:World} {gp:Nat} {U:Nat → Prop} {X:Pr} (h:QP w0 gp U X wr)
include h
theorem QP.sub (hb:Below wr.heap.size wr w1):QP w0 gp U X w1:=⟨h.whole.sub hb,fun k hk => ⟨(h.low k hk).1,Nat.lt_of_lt_of_le (h.low k hk).2 hb.size⟩,h.below.trans (hb.mono h.below.size)⟩
theorem QP.kept {T:Nat → Prop} (hk:Kept wr w1 T) (hT:∀ k,T k → ¬ (k = gp ∨ U k)) (hb:Below w0.heap.size w0 w1):QP w0 gp U X w1:=by
 obtain ⟨ge,own,lv,wv,hP,hU⟩:=h.whole
 exact ⟨⟨ge,own,lv,wv,hP.kept hk (fun hx => hT gp hx (.inl rfl)) (fun i k ho hx => hT k hx (.inr (hU i k ho))),hU⟩,fun k hx => ⟨(h.low k hx).1,Nat.lt_of_lt_of_le (h.low k hx).2 hk.1⟩,hb⟩
theorem vP {N:Nat} (hI:Inv X N) (hN:N ≤ 900000) (a:Act) (Ab:Option Addr) (cb:Nat) (hC:∀ W':World,Kept wr W' (fun k => k = gp ∨ U k) → (Kd.int .u8).C W' Ab a.body.length a.body) :
  Calls Try.prog 41 #[.pointer (some ⟨gp,0,none⟩),.agg #[.int .i64 a.kind,.int .i64 a.side,.int .i64 a.i,.slice Ab a.body.length cb]] wr fun e w' => e = .returned (.int .i64 (Yj X a)) ∧ QP w0 gp (Sz U wr w') (P8 X a) w' ∧ Kept wr w' (fun k => k = gp ∨ U k):=by
 refine (mD h.whole hI hN a Ab cb (fun _ W' hk => hC W' hk)).mono fun e w' hq => ⟨hq.1,⟨?_,fun k hk => ?_,h.below.trans hq.2.2.2⟩,hq.2.2.1⟩
 ·obtain ⟨ge,own,lv,wv,hP,hU⟩:=hq.2.1
  exact ⟨ge,own,lv,wv,hP,fun i k ho => (hU i k ho).elim .inl (fun hn => .inr ⟨hn,hP.lt i k ho⟩)⟩
 ·have hs:=hq.2.2.1.1
  have hz:=h.below.size
  rcases hk with hk | hk | hk
  ·have:=h.low k (.inl hk); omega
  ·have:=h.low k (.inr hk); omega
  ·omega
theorem Zo (s:Nat) (hs:s < 2):Calls Try.prog 40 #[.pointer (some ⟨gp,0,none⟩),.int .i64 s] wr fun e w' => e = .returned (.int .i64 (X.sd s).end_.phase) ∧ wr = w':=by
 obtain ⟨_,_,_,_,hP,_⟩:=h.whole
 exact VT hP s hs
theorem Zp (s:Nat) (hs:s < 2):Calls Try.prog 47 #[.pointer (some ⟨gp,0,none⟩),.int .i64 s] wr fun e w' => e = .returned (.int .i64 (X.sd s).end_.queue.length) ∧ wr = w':=by
 obtain ⟨_,_,_,_,hP,_⟩:=h.whole
 exact dN hP s hs
theorem XV:Calls Try.prog 43 #[.pointer (some ⟨gp,0,none⟩)] wr fun e w' => e = .returned (.int .i64 X.way.length) ∧ wr = w':=by
 obtain ⟨_,_,_,_,hP,_⟩:=h.whole
 exact Oz hP
theorem mW {N:Nat} (hI:Inv X N) (hN:N ≤ 900000) (s:Nat) (hs:s < 2):Calls Try.prog 38 #[.pointer (some ⟨gp,0,none⟩),.int .i64 s] wr fun e w' => ∃ v,e = .returned v ∧ Fb.R 67 w' w0.heap.size (fun k => wr.heap.size ≤ k) v (X.sd s).log ∧ Below wr.heap.size wr w':=by
 exact Z40
end
theorem mX (w0 w:World) (hb:Below w0.heap.size w0 w):Calls Try.prog 44 #[] w fun e w' => e = .returned (.pointer (some ⟨w.heap.size,0,none⟩)) ∧ QP w0 w.heap.size (fun k => w.heap.size ≤ k ∧ k < w'.heap.size) Ip w' :=
 (fK w w0.heap.size hb.size).mono fun e w' hq => by
  obtain ⟨ge,own,he,hP,ho,hbl⟩:=hq
  refine ⟨he,⟨⟨_,_,_,_,hP,fun i k hx => ⟨ho i k hx,hP.lt i k hx⟩⟩,fun k hk => ?_,hb.trans hbl⟩⟩
  ·have:=AQ hP.blk
   have:=hb.size
   rcases hk with hk | hk <;> omega
end Go.Proofs.Ytnkkgofpifhoeaa.Pr
end
section
namespace Go.Proofs.Ytnkkgofpifhoeaa.Rf
open Go.RowKit Go.Proofs.Ytnkkgofpifhoeaa.Base Go.Proofs.Ytnkkgofpifhoeaa.Steps Go.Proofs.Ytnkkgofpifhoeaa.Lk Go.Proofs.YtnkkgofpifhoeaaW.PrintWords
def By (w:World) (lo hi:Nat) (A:Option Addr) (m:Nat):Prop:=m = 0 ∨ ∃ g cs,A = some ⟨g,0,none⟩ ∧ lo ≤ g ∧ g < hi ∧ w.heap[g]? = some (.cells cs 5 (0,0)) ∧ ∀ k,k < m → ∃ x,cs[k]? = some (.int .u8 x)
section
variable {w w':World} {lo hi m:Nat} {A:Option Addr}
theorem By.of {base n c:Nat} {ok:Nat → Prop} {xs:List Int} (h:(Kd.int .u8).R 5 w base ok (.slice A n c) xs) (hl:lo ≤ base ∨ ∀ k,ok k → lo ≤ k) (hh:w.heap.size ≤ hi):By w lo hi A n:=by
 by_cases hn:n = 0
 ·exact .inl hn
 ·have hnn:=(Kd.Bi h).1
  obtain ⟨g,cap,he,_⟩:=Kd.Jt h (by omega)
  injection he with h1 h2 h3
  subst h1
  obtain ⟨inner,ho⟩:=Kd.Qo h
  obtain ⟨cells,hc⟩:=FO ho g (by simp [Value.ownBlock])
  refine .inr ⟨g,cells,rfl,?_,Nat.lt_of_lt_of_le (AQ hc) hh,hc,fun k hk => ?_⟩
  ·rcases hl with hl | hl
   ·exact Nat.le_trans hl (own_base ho g (by simp [Value.ownBlock]))
   ·exact hl g (h.1 g (by simp [Value.ownBlock]))
  ·have h3:=(Kd.aV (0:Int) h (k:Int) (by omega) (by omega)).1
   rw [Int.toNat_natCast,AA hc] at h3
   exact ⟨_,h3⟩
theorem By.kept {S:Nat → Prop} (h:By w lo hi A m) (hk:Kept w w' S) (hS:∀ k,lo ≤ k → k < hi → ¬ S k):By w' lo hi A m:=h.imp_right fun ⟨g,cs,h1,h2,h3,h4,h5⟩ => ⟨g,cs,h1,h2,h3,(hk.2 g (AQ h4) (hS g h2 h3)).trans h4,h5⟩
theorem By.set (h:By w lo hi A m) (b k:Nat) (y:Int):By (w.setCell ⟨b,k,none⟩ (.int .u8 y)) lo hi A m:=h.imp_right fun ⟨g,cs,h1,h2,h3,h4,h5⟩ => by
 by_cases hb:g = b
 ·subst hb
  refine ⟨g,cs.setIfInBounds k (.int .u8 y),h1,h2,h3,by simp [World.setCell,Array.getElem?_modify,h4],fun j hj => ?_⟩
  by_cases hjk:k = j
  ·subst hjk
   obtain ⟨x,hx⟩:=h5 k hj
   exact ⟨y,Array.getElem?_setIfInBounds_self_of_lt (Array.getElem?_eq_some_iff.1 hx).1⟩
  ·obtain ⟨x,hx⟩:=h5 j hj
   exact ⟨x,(Array.getElem?_setIfInBounds_ne hjk).trans hx⟩
 ·exact ⟨g,cs,h1,h2,h3,(Below.heap_setCell w ⟨b,k,none⟩ _ g hb).trans h4,h5⟩
theorem By.pick (h:By w lo hi A m) (k:Nat) (hk:k < m):∃ g x,A = some ⟨g,0,none⟩ ∧ lo ≤ g ∧ g < hi ∧ w.cell? ⟨g,k,none⟩ = some (.int .u8 x) ∧ w.frozen? ⟨g,k,none⟩ = false ∧ ∃ cs,w.heap[g]? = some (.cells cs 5 (0,0)):=by
 rcases h with h | ⟨g,cs,h1,h2,h3,h4,h5⟩
 ·omega
 ·obtain ⟨x,hx⟩:=h5 k hk
  exact ⟨g,x,h1,h2,h3,(AA h4 k).trans hx,AL h4 k,cs,h4⟩
end
structure Wo (w0 w:World) (lo hi:Nat) (wr:World):Prop where
 kept:Kept w wr (fun k => lo ≤ k ∧ k < hi)
 below:Below w0.heap.size w0 wr
theorem Wo.set {w0 w wr:World} {lo hi:Nat} (h:Wo w0 w lo hi wr) (hlo:w0.heap.size ≤ lo) {g:Nat} (h1:lo ≤ g) (h2:g < hi) (k:Nat) (v:Value):Wo w0 w lo hi (wr.setCell ⟨g,k,none⟩ v) :=
 ⟨h.kept.setCell (p:=⟨g,k,none⟩) (.inl ⟨h1,h2⟩) v,h.below.setCell (Nat.le_trans hlo h1) v⟩
def Xo (w0 w:World) (lo hi:Nat) (A:Option Addr) (n:Nat) (wr:World):Prop:=By wr lo hi A n ∧ Wo w0 w lo hi wr
theorem Xo.store {w0 w wr:World} {lo hi n:Nat} {A:Option Addr} (h:Xo w0 w lo hi A n wr) (hlo:w0.heap.size ≤ lo) (k:Nat) (hk:k < n) :
  ∃ g x,A = some ⟨g,0,none⟩ ∧ wr.cell? ⟨g,k,none⟩ = some (.int .u8 x) ∧ wr.frozen? ⟨g,k,none⟩ = false ∧ ∀ y,Xo w0 w lo hi A n (wr.setCell ⟨g,k,none⟩ (.int .u8 y)):=by
 obtain ⟨g,x,h1,h2,h3,h4,h5,_⟩:=h.1.pick k hk
 exact ⟨g,x,h1,h4,h5,fun y => ⟨h.1.set g k y,h.2.set hlo h2 h3 k _⟩⟩
def Lx (w0 w:World) (lo hi:Nat) (A:Option Addr) (n:Nat) (wr:World):Prop:=(∀ i,i < n → ∃ g c Ab m cb,A = some ⟨g,0,none⟩ ∧ wr.heap[g]? = some (.cells c 67 (0,0)) ∧ c[i * 6 + 5]? = some (.slice Ab m cb) ∧ m ≤ 1000000 ∧ By wr lo hi Ab m) ∧ Wo w0 w lo hi wr
def Lb (w0 w:World) (lo hi:Nat) (A:Option Addr) (n i g:Nat) (Ab:Option Addr) (m cb:Nat) (wr:World):Prop:=Lx w0 w lo hi A n wr ∧ (∃ c,wr.heap[g]? = some (.cells c 67 (0,0)) ∧ c[i * 6 + 5]? = some (.slice Ab m cb)) ∧ By wr lo hi Ab m
theorem Lx.start {w0 w wr:World} {B n c:Nat} {A:Option Addr} {l:List Pr.Ei} (h:Pr.Fb.R 67 wr B (fun k => w.heap.size ≤ k) (.slice A n c) l) (hl:∀ x ∈ l,x.body.length ≤ 1000000) (hk:Below w.heap.size w wr) (hb:Below w0.heap.size w0 wr):Lx w0 w w.heap.size wr.heap.size A n wr:=by
 refine ⟨fun i hi => ?_,Kept.of_below hk _,hb⟩
 obtain ⟨hn,hnc,hC⟩:=Kd.Bi h
 obtain ⟨gx,cap,he,_⟩:=Kd.Jt h (by omega)
 injection he with h1 h2 h3
 subst h1
 obtain ⟨inner,ho⟩:=Kd.Qo h
 obtain ⟨cells,hc⟩:=FO ho gx (by simp [Value.ownBlock])
 obtain ⟨cs,GY,hM,hcc,_⟩:=Kd.NI h Pr.Gs (i:Int) (by omega) (by omega)
 obtain ⟨b,hcs,hRb⟩:=Pr.Jp.1 hM
 obtain ⟨Ab,cb,hbv⟩:=Kd.Am hRb
 subst hbv
 subst hcs
 have h5:=hcc 5 _ rfl
 rw [AA hc] at h5
 refine ⟨gx,cells,Ab,_,cb,rfl,hc,h5,hl _ ?_,By.of hRb (.inr fun k hk => hk.1) (Nat.le_refl _)⟩
 rw [List.getD_eq_getElem?_getD,List.getElem?_eq_getElem (show (i:Int).toNat < l.length by omega)]
 exact List.getElem_mem _
theorem Lx.body {w0 w wr:World} {lo hi n:Nat} {A:Option Addr} (h:Lx w0 w lo hi A n wr) (i:Nat) (hi':i < n):∃ g Ab m cb,A = some ⟨g,0,none⟩ ∧ m ≤ 1000000 ∧ Lb w0 w lo hi A n i g Ab m cb wr:=by
 obtain ⟨g,c,Ab,m,cb,h1,h2,h3,h4,h5⟩:=h.1 i hi'
 exact ⟨g,Ab,m,cb,h1,h4,h,⟨c,h2,h3⟩,h5⟩
section
variable {w0 w wr:World} {lo hi n i g m cb:Nat} {A Ab:Option Addr} (h:Lb w0 w lo hi A n i g Ab m cb wr)
include h
theorem Lb.cell:wr.cell? ⟨g,i * 6 + 5,none⟩ = some (.slice Ab m cb):=by
 obtain ⟨c,h2,h3⟩:=h.2.1
 exact (AA h2 _).trans h3
theorem Lb.store (hlo:w0.heap.size ≤ lo) (k:Nat) (hk:k < m):∃ g2 x,Ab = some ⟨g2,0,none⟩ ∧ wr.cell? ⟨g2,k,none⟩ = some (.int .u8 x) ∧ wr.frozen? ⟨g2,k,none⟩ = false ∧ ∀ y,Lb w0 w lo hi A n i g Ab m cb (wr.setCell ⟨g2,k,none⟩ (.int .u8 y)):=by
 obtain ⟨g2,x,e1,e2,e3,e4,e5,cs,e6⟩:=h.2.2.pick k hk
 have hne:∀ g' c',wr.heap[g']? = some (.cells c' 67 (0,0)) → ¬ g' = g2:=fun g' c' f2 he => by
  rw [he,e6] at f2
  injection f2 with f2
  injection f2 with _ f2 _
  cases f2
 refine ⟨g2,x,e1,e4,e5,fun y => ⟨⟨fun j hj => ?_,h.1.2.set hlo e2 e3 k _⟩,?_,h.2.2.set g2 k y⟩⟩
 ·obtain ⟨g',c',Ab',m',cb',f1,f2,f3,f4,f5⟩:=h.1.1 j hj
  exact ⟨g',c',Ab',m',cb',f1,(Below.heap_setCell wr ⟨g2,k,none⟩ _ g' (hne g' c' f2)).trans f2,f3,f4,f5.set g2 k y⟩
 ·obtain ⟨c,f2,f3⟩:=h.2.1
  exact ⟨c,(Below.heap_setCell wr ⟨g2,k,none⟩ _ g (hne g c f2)).trans f2,f3⟩
end
theorem mY (w:World) (gp:Nat) (i:Int) (h0:(i == 0) = false) (h1:(i == 1) = false):Calls Try.prog 81 #[.pointer (some ⟨gp,0,none⟩),.int .i64 i] w fun e w' => e = .returned (.bool false) ∧ w = w':=by
 go_enter Try.func81,Try.ntmps81
 go_wp2
 all_goals (go_ret; exact ⟨rfl,rfl⟩)
theorem mZ (w:World) (gp:Nat) (i:Int) (h0:(i == 0) = false) (h1:(i == 1) = false):Calls Try.prog 38 #[.pointer (some ⟨gp,0,none⟩),.int .i64 i] w fun e w' => e = .returned (.slice none 0 0) ∧ w = w':=by
 go_enter Try.func38,Try.ntmps38
 exact Z39
theorem Zq (w:World) (gp:Nat) (i:Int) (h0:(i == 0) = false) (h1:(i == 1) = false):Calls Try.prog 40 #[.pointer (some ⟨gp,0,none⟩),.int .i64 i] w fun e w' => e = .returned (.int .i64 0) ∧ w = w':=by
 go_enter Try.func40,Try.ntmps40
 exact Z39
theorem Zr (w:World) (gp:Nat) (i:Int) (h0:(i == 0) = false) (h1:(i == 1) = false):Calls Try.prog 47 #[.pointer (some ⟨gp,0,none⟩),.int .i64 i] w fun e w' => e = .returned (.int .i64 0) ∧ w = w':=by
 go_enter Try.func47,Try.ntmps47
 exact Z39
end Go.Proofs.Ytnkkgofpifhoeaa.Rf
end
section
namespace Go.Proofs.Ytnkkgofpifhoeaa.Rf
open Go.RowKit Go.Proofs.Ytnkkgofpifhoeaa.Pr Go.Proofs.Ytnkkgofpifhoeaa.Base Go.Proofs.Ytnkkgofpifhoeaa.Steps Go.Proofs.Ytnkkgofpifhoeaa.Lk Go.Proofs.YtnkkgofpifhoeaaW.PrintWords Go.Proofs.YtnkkgofpifhoeaaW.PrintLast
structure TP (w:World) (gp gm:Nat) (U:Nat → Prop) (X:Pr) (cs:Array Value) (wr:World):Prop where
 q:QP w gp U X wr
 m:wr.heap[gm]? = some (.cells cs 84 (0,0))
 ne:¬ (gm = gp ∨ U gm)
 ge:w.heap.size ≤ gm
 r:RP (fun k => k = gm ∨ k = gp ∨ U k) wr X cs
theorem TP.slt {w wr:World} {gp gm:Nat} {U:Nat → Prop} {X:Pr} {cs:Array Value} (h:TP w gp gm U X cs wr):∀ k,(k = gm ∨ k = gp ∨ U k) → k < wr.heap.size:=fun k hk => by
 rcases hk with hk | hk
 ·rw [hk]; exact AQ h.m
 ·exact (h.q.low k hk).2
theorem TP.below {w wr w1:World} {gp gm:Nat} {U:Nat → Prop} {X:Pr} {cs:Array Value} (h:TP w gp gm U X cs wr) (hb:Below wr.heap.size wr w1):TP w gp gm U X cs w1:=⟨h.q.sub hb,(hb.block _ (AQ h.m)).trans h.m,h.ne,h.ge,h.r.below hb⟩
theorem TP.low {w wr:World} {gp gm:Nat} {U:Nat → Prop} {X:Pr} {cs:Array Value} (h:TP w gp gm U X cs wr):∀ k,(k = gm ∨ k = gp ∨ U k) → w.heap.size ≤ k:=fun k hk => by
 rcases hk with hk | hk
 ·rw [hk]; exact h.ge
 ·exact (h.q.low k hk).1
theorem TP.wo {w wl wr:World} {gp gm hi:Nat} {U:Nat → Prop} {X:Pr} {cs:Array Value} (h:TP w gp gm U X cs wl) (hW:Wo w wl wl.heap.size hi wr):TP w gp gm U X cs wr :=
 ⟨h.q.kept hW.kept (fun k hk hx => absurd (h.slt k (.inr hx)) (by have:=hk.1; omega)) hW.below,(hW.kept.2 gm (AQ h.m) (fun hx => by have:=AQ h.m; omega)).trans h.m,h.ne,h.ge,h.r.keep ⟨hW.kept.1,fun i hi _ => hW.kept.2 i hi (fun hx => by omega)⟩⟩
theorem Fm.one (w:World) (a:Array Value) (ta:Nat):Fm w (w.alloc (.cells a ta)) [(w.heap.size,ta)] [a]:=by
 refine ⟨UL w _,fun i x y hi hy => ?_,fun x hx => ?_,fun x hx => ?_,fun i j x y hi hj hn => ?_⟩
 ·match i,hi,hy with
  | 0,hi,hy => cases hi; cases hy; exact heap_alloc_new w _
 ·rw [List.mem_singleton.1 hx]; exact Nat.le_refl _
 ·rw [List.mem_singleton.1 hx]; simp
 ·have hi5:i < 1:=by have:=(List.getElem?_eq_some_iff.1 hi).1; simpa using this
  have zZ:j < 1:=by have:=(List.getElem?_eq_some_iff.1 hj).1; simpa using this
  omega
theorem JZ {w W:World} {S S':Nat → Prop} (h:Kept w W S) (hs:∀ k,S k → S' k):Kept w W S':=⟨h.1,fun i hi hn => h.2 i hi (fun x => hn (hs i x))⟩
theorem OT {w W:World} {A:Option Addr} {n:Nat} {xs:List Int} (h:(Kd.int .u8).C w A n xs) (hb:Below w.heap.size w W):(Kd.int .u8).C W A n xs:=Kd.Cm h hb
theorem Qh {S:Nat → Prop} {w W:World} {A:Option Addr} {n:Nat} {xs:List Int} (h:(Kd.int .u8).C w A n xs) (hb:Below w.heap.size w W) (hS:∀ k,S k → w.heap.size ≤ k):Gl S W A xs:=by
 have hn:=h.1
 subst hn
 refine ⟨OT h hb,fun h0 ad had hs => ?_⟩
 subst had
 have h1:=Kd.yN h h0 (by decide)
 have h2:=hS _ hs
 omega
theorem eF (w:World) (A:Option Addr) (n c:Nat) (sc:List Pr.Act) (hC:act.C w A n sc):Calls Try.prog 10 #[.slice A n c] w fun e w' => e = .returned (.bool true) ∧ Below w.heap.size w w':=by
 have H:=Lib.hid hC
 have HN:=Lib.hid hC.1
 clear hC
 have Ib:=Try.underlying84
 have JF:=Try.underlying82
 have Jj:=Try.underlying81
 have Iq:=Try.underlying79
 have Df:=Try.underlying78
 have AAP:=Try.underlying72
 go_enter Try.func10,Try.ntmps10
 go_wp2_with (first | (go_at_call 35; (have hc:=dZ w); (with_reducible refine hc.mono ?_); clear hc; rintro e w1 ⟨rfl,hb1⟩; (have HB1:=Lib.hid hb1); clear hb1))
 have hf1:=mQ w1 A n c sc (Su H.out HB1.out)
 have HF:=Lib.hid hf1
 clear hf1
 go_wp2_with (go_at_call 36; (have hc:=HF.out); (with_reducible refine hc.mono ?_); clear hc; rintro e w9 ⟨⟨bf,rfl,hbf⟩,rfl⟩; (have HBF:=Lib.hid hbf); (clear hbf); (cases bf))
 any_goals (go_ret; exact ⟨rfl,HB1.out⟩)
 have hfit:=HBF.out (by first | rfl | trivial)
 have HLN:=Lib.hid hfit.1
 have HFT:=Lib.hid hfit
 have hn4:n ≤ 400:=by have:=HN.out; have:=hfit.1; omega
 clear hfit HBF HF
 go_wp2_with (first | (go_at_call 44; (have hc:=mX w w1 HB1.out); (with_reducible refine hc.mono ?_); clear hc; rintro e w2 ⟨rfl,hP⟩; (have HP2:=Lib.hid hP); clear hP) | (go_at_call 45; (have hc:=AAH w2); (with_reducible refine hc.mono ?_); clear hc; rintro e w3 ⟨rfl,hb3⟩; (have HB3:=Lib.hid hb3); clear hb3) | ((with_reducible refine gate_ (.store 84 (.tmp 4) (.tmp 24)) rfl ?_); (have hz4:=heap_alloc_new w3 (.cells #[.int .u32 0,.int .i64 0,.int .u32 0,.int .u32 0,.int .u32 0,.bool false,.slice none 0 0,.int .i64 0,.int .u32 0,.int .u32 0,.int .i64 0,.slice none 0 0,.int .u32 0,.int .i64 0,.int .u32 0,.int .u32 0,.int .u32 0,.bool false,.slice none 0 0,.int .i64 0,.int .u32 0,.int .u32 0,.int .i64 0,.slice none 0 0,.slice none 0 0,.slice none 0 0,.slice none 0 0] 84)); (have hb4:=UL w3 (.cells #[.int .u32 0,.int .i64 0,.int .u32 0,.int .u32 0,.int .u32 0,.bool false,.slice none 0 0,.int .i64 0,.int .u32 0,.int .u32 0,.int .i64 0,.slice none 0 0,.int .u32 0,.int .i64 0,.int .u32 0,.int .u32 0,.int .u32 0,.bool false,.slice none 0 0,.int .i64 0,.int .u32 0,.int .u32 0,.int .i64 0,.slice none 0 0,.slice none 0 0,.slice none 0 0,.slice none 0 0] 84)); (obtain ⟨w4,hw4⟩:∃ ww,ww = w3.alloc (.cells #[.int .u32 0,.int .i64 0,.int .u32 0,.int .u32 0,.int .u32 0,.bool false,.slice none 0 0,.int .i64 0,.int .u32 0,.int .u32 0,.int .i64 0,.slice none 0 0,.int .u32 0,.int .i64 0,.int .u32 0,.int .u32 0,.int .u32 0,.bool false,.slice none 0 0,.int .i64 0,.int .u32 0,.int .u32 0,.int .i64 0,.slice none 0 0,.slice none 0 0,.slice none 0 0,.slice none 0 0] 84):=⟨_,rfl⟩); (rw [← hw4] at hz4 hb4 ⊢); (clear hw4); (have HB4:=Lib.hid hb4); (clear hb4); (refine Ad rfl rfl 84 (.tmp 4) (.tmp 24) rfl w3.heap.size newR rfl rfl 84 _ hz4 (by kernel_rfl) rfl (by kernel_rfl) ?_); (intro w5 hb5 Wl); (have fZ:=Lib.hid hb5); (have xB:=Lib.hid Wl); (clear hb5 Wl hz4)))
 obtain ⟨gm,hgm⟩:∃ gm,gm = w3.heap.size:=⟨_,rfl⟩
 have HGM:=Lib.hid hgm
 obtain ⟨gp,gX⟩:∃ gp,gp = w1.heap.size:=⟨_,rfl⟩
 have HGP:=Lib.hid gX
 rw [← hgm] at fZ xB ⊢
 rw [← gX] at HP2 ⊢
 have HT:=Lib.hid (show ∃ U cs,TP w gp gm U (LY Ip (sc.take 0)) cs w5 from ?_)
 rotate_left
 ·have h1:=HB1.out.size
  have hq:=HP2.out.sub (HB3.out.trans (HB4.out.mono HB3.out.size))
  have hgl:=HP2.out.low
  have h3:=HB3.out.size
  have hne:∀ k,k = gm → ¬ (k = gp ∨ (gp ≤ k ∧ k < w2.heap.size)):=fun k hk hx => by
   have hg:=(hgl gp (.inl rfl)).2
   rw [hgm] at hk
   rcases hx with hx | hx <;> omega
  have hq5:=hq.kept (T:=fun k => k = gm) (AP xB.out rfl) hne (xB.out.below hq.below (by have:=hq.below.size; have h2:=HP2.out.below.size; rw [hgm]; omega))
  exact ⟨_,newR,⟨hq5,fZ.out,hne gm rfl,by have h2:=HP2.out.below.size; rw [hgm]; omega,lM _ _⟩⟩
 clear HP2 HB3 HB4 fZ xB hgm gX
 go_wp2_with fail
 go_loopg [5] n (fun m v wr => ∃ (i:Nat) (U:Nat → Prop) (cs:Array Value),m = n - i ∧ i ≤ n ∧ v = .int .i64 (i:Int) ∧ TP w gp gm U (LY Ip (sc.take i)) cs wr)
 case atStart =>
  obtain ⟨U,cs,h⟩:=HT.out
  exact ⟨0,U,cs,rfl,Nat.zero_le _,rfl,h⟩
 case round =>
  obtain ⟨wo,rfl⟩:∃ wo:World,wo = wr:=⟨_,rfl⟩
  obtain ⟨i,U,cs,hm,hin,rfl,hT⟩:=hrel
  have HM:=Lib.hid hm
  have dO:=Lib.hid hin
  have PN:=Lib.hid hT
  clear hm hin hT HT
  by_cases hlt:i < n
  ·have hd:decide ((i:Int) < (n:Int)) = true:=by simp [hlt]
   have hi:=VX (sc.take i) Kq (by have:=HN.out; rw [List.length_take]; omega)
   have hw:=dw (sc.take i) Kq dm (by have:=HN.out; rw [List.length_take]; omega)
   have hrt:=Zl Ip sc i (by rw [HN.out]; exact hlt)
   have HI:=Lib.hid hi
   have uH:=Lib.hid hw
   have HRT:=Lib.hid hrt
   obtain ⟨g,o,Ab,cb,hA,-,hrg,hC⟩:=Sr H.out i hlt
   subst hA
   have hbl:=HFT.out.2 (sc.getD i nilA) (by rw [List.getD_eq_getElem?_getD,List.getElem?_eq_getElem (show i < sc.length by rw [HN.out]; exact hlt)]; exact List.getElem_mem _)
   have FP:=Lib.hid hbl
   have Qk:=Lib.hid hrg
   have HBC:=Lib.hid hC
   clear hi hw hrt hrg hC hbl
   generalize hx:sc.getD i nilA = a at *
   clear hx
   go_wp2_with (first | ((with_reducible refine AO (N:=34) rfl ?_); (refine wpList_load_mid rfl 72 (.tmp 33) rfl g (o + i * 4) (by first | rfl | (simp; done)) [.int .i64 a.kind,.int .i64 a.side,.int .i64 a.i,.slice Ab a.body.length cb] _ (fun j v hv => Bl PN.out.q.below (Qk.out j v hv)) Try.underlying72 rfl (by kernel_rfl) ?_)) | ((with_reducible refine AO (N:=35) rfl ?_); (have F2:=Fm.one wo #[.int .i64 a.kind,.int .i64 a.side,.int .i64 a.i,.slice Ab a.body.length cb] 72); (have T2:=PN.out.below (UL wo (.cells #[.int .i64 a.kind,.int .i64 a.side,.int .i64 a.i,.slice Ab a.body.length cb] 72))); (obtain ⟨w1,hw1⟩:∃ ww,ww = wo.alloc (.cells #[.int .i64 a.kind,.int .i64 a.side,.int .i64 a.i,.slice Ab a.body.length cb] 72):=⟨_,rfl⟩); (rw [← hw1] at F2 T2 ⊢); (have vS:w1.heap.size = wo.heap.size + 1:=by rw [hw1]; simp); (have HW1:=Lib.hid vS); (clear hw1 vS); (have F:=Lib.hid F2); (have T:=Lib.hid T2); (clear F2 T2); (have FA:=F); (have TA:=T); (refine Kd.Iy (Kd.int .u8) (w0:=w1) (W:=w1) w1.heap.size 5 rfl (N:=35) rfl (xs:=([]:List Int)) (inner:=[]) (ok:=fun _ => True) (CY:=fun _ => False) (by first | (go_simp; done) | (go_simp; rfl)) (CV.none _ _) (fun _ hk => False.elim hk) trivial (Below.refl _ _) (Nat.le_refl _) (by decide) ?_); (intro v3 w3 FT hB3 _ _); (have HR3:=Lib.hid FT); (have HB3:=Lib.hid hB3); (have F2:=Lib.hid (F.out.below hB3)); (have T2:=Lib.hid (T.out.below hB3)); (clear FT hB3); (clear F T); (have F:=F2); (have T:=T2); (clear F2 T2); (have hcA:=F.out.CO 0 rfl rfl)) | ((with_reducible refine AO (N:=38) rfl ?_); (clear hcA); (refine Kd.Ew (h1:=fun _ => rfl) (Value.int .u8) 0 (w0:=w1) (W:=w3) w1.heap.size rfl (.tmp 35) (.tmp 37) 22 5 (.int .u8 0) 1 rfl Try.underlying22 LZ rfl (by decide) v3 [] a.body Ab a.body.length cb (fun _ => True) rfl rfl (fun _ _ => trivial) HR3.out (OT HBC.out T.out.q.below) HB3.out HB3.out.size (by have:=FP.out; simp only [List.length_nil]; omega) ?_); (intro v4 w4 Ji hB4 _ _); (obtain ⟨A4,c4,hv4⟩:=Kd.Am Ji); (rw [List.nil_append] at Ji hv4); (subst hv4); (have HR4:=Lib.hid Ji); (have mg:=QI (S:=fun k => k < w1.heap.size) (fun k hk => hk) Ji); (have BD:=Lib.hid mg.1); (have HC4:=Lib.hid mg.2.2); (clear mg); (have F2:=Lib.hid (FA.out.below hB4)); (have T2:=Lib.hid (TA.out.below hB4)); (clear Ji hB4 HR3 HB3 FA TA); (clear F T); (have F:=F2); (have T:=T2); (clear F2 T2); (have hcA:=F.out.CO 0 rfl rfl)) | ((with_reducible refine AO (N:=40) rfl ?_); (refine wpList_load_row rfl 84 (.tmp 4) rfl gm (by rfl) 84 cs (0,0) _ T.out.m Try.underlying84 rfl (CU T.out.r.size) ?_)) | (go_at_call 46; (clear hcA); (have hz:=rdo (S:=(fun k => (k = gm ∨ k = gp ∨ U k) ∨ (wo.heap.size ≤ k ∧ k < w4.heap.size))) (w:=w4) (fun k hk => hk.elim (T.out.slt k) (fun h => h.2)) HI.out (by have:=HN.out; rw [List.length_take]; omega) uH.out ((PN.out.r.up (fun k hk => hk.elim .inl (fun h => .inr h.1))).below F.out.bw) a Ab cb (Qh HBC.out T.out.q.below (fun k hk => hk.elim (T.out.low k) (fun h => Nat.le_trans PN.out.q.below.size h.1))) (Nat.le_trans FP.out (by decide))); (refine Go.Calls.mono (show Calls Try.prog 46 _ _ _ from hz) ?_); (clear hz); (intro e w6 hq); (obtain ⟨⟨gU,he,hP6⟩,hb6⟩:=hq); (subst he); (rw [← HRT.out] at hP6); (have R:=Lib.hid hP6); (have F2:=Lib.hid (F.out.below hb6)); (have T2:=Lib.hid (T.out.below hb6)); (have IE:=Lib.hid hb6); (clear hP6 hb6); (clear F T); (have F:=F2); (have T:=T2); (clear F2 T2); (have hcA:=F.out.CO 0 rfl rfl)) | ((with_reducible refine gate_ (.store 84 (.tmp 8) (.tmp 50)) rfl ?_); (clear hcA); (have F2:=F.out.add rfl #[.int .u32 0,.int .i64 0,.int .u32 0,.int .u32 0,.int .u32 0,.bool false,.slice none 0 0,.int .i64 0,.int .u32 0,.int .u32 0,.int .i64 0,.slice none 0 0,.int .u32 0,.int .i64 0,.int .u32 0,.int .u32 0,.int .u32 0,.bool false,.slice none 0 0,.int .i64 0,.int .u32 0,.int .u32 0,.int .i64 0,.slice none 0 0,.slice none 0 0,.slice none 0 0,.slice none 0 0] 84); (have hb7:=UL w6 (.cells #[.int .u32 0,.int .i64 0,.int .u32 0,.int .u32 0,.int .u32 0,.bool false,.slice none 0 0,.int .i64 0,.int .u32 0,.int .u32 0,.int .i64 0,.slice none 0 0,.int .u32 0,.int .i64 0,.int .u32 0,.int .u32 0,.int .u32 0,.bool false,.slice none 0 0,.int .i64 0,.int .u32 0,.int .u32 0,.int .i64 0,.slice none 0 0,.slice none 0 0,.slice none 0 0,.slice none 0 0] 84)); (obtain ⟨w7,hw7⟩:∃ ww,ww = w6.alloc (.cells #[.int .u32 0,.int .i64 0,.int .u32 0,.int .u32 0,.int .u32 0,.bool false,.slice none 0 0,.int .i64 0,.int .u32 0,.int .u32 0,.int .i64 0,.slice none 0 0,.int .u32 0,.int .i64 0,.int .u32 0,.int .u32 0,.int .u32 0,.bool false,.slice none 0 0,.int .i64 0,.int .u32 0,.int .u32 0,.int .i64 0,.slice none 0 0,.slice none 0 0,.slice none 0 0,.slice none 0 0] 84):=⟨_,rfl⟩); (rw [← hw7] at F2 hb7 ⊢); (clear hw7); (refine F2.st 1 rfl rfl 84 (.tmp 8) (.tmp 50) rfl rfl rfl rfl rfl (CU R.out.size) (EX R.out.size) R.out.one ?_); (intro w8 hF hA); (have hb8:=hA.below hb7 (Nat.le_refl _)); (clear F2 hb7 hA); (have F2:=Lib.hid hF); (have T2:=Lib.hid (T.out.below hb8)); (have R2:=Lib.hid (R.out.below hb8)); (have Il:=Lib.hid (IE.out.trans (hb8.mono IE.out.size))); (have Oq:=Lib.hid (Kept.of_below Il.out (fun k => k = gm ∨ (k = gp ∨ U k)))); (have B2:=Lib.hid (BD.out.below Il.out)); (clear hF hb8 R BD); (have R:=R2); (have BD:=B2); (clear R2 B2); (clear F T); (have F:=F2); (have T:=T2); (clear F2 T2); (have hcA:=F.out.CO 0 rfl rfl)) | ((with_reducible refine AO (N:=52) rfl ?_); (refine F.out.ld 1 rfl 84 (.tmp 8) rfl rfl rfl rfl Try.underlying84 rfl (CU R.out.size) ?_)) | ((with_reducible refine gate_ (.store 84 (.tmp 4) (.tmp 52)) rfl ?_); (clear hcA); (refine Ad rfl rfl 84 (.tmp 4) (.tmp 52) rfl gm gU rfl rfl 84 _ T.out.m (CU R.out.size) (T.out.r.size.trans R.out.size.symm) R.out.one ?_); (intro w9 hx9 eG); (have Q:=Lib.hid (T.out.q.kept (T:=fun k => k = gm) (AP eG rfl) (fun k hk hx => T.out.ne (hk ▸ hx)) (eG.below T.out.q.below T.out.ge))); (have M:=Lib.hid hx9); (have R2:=Lib.hid (R.out.keep (AP eG (.inl (.inl rfl))))); (have B2:=Lib.hid (BD.out.keep (AP eG (show gm < w1.heap.size from by have h1:=AQ PN.out.m; have h2:=HW1.out; omega)))); (clear BD); (have BD:=B2); (clear B2); (have oL:=Lib.hid ((eG.block _ (fun he => by have:=AQ PN.out.m; omega)).trans (F.out.get 0 rfl rfl))); (have vT:=Lib.hid (Oq.out.BQ (AP eG (S:=fun k => k = gm) rfl) (fun k hk => .inl (.inl hk)))); (clear Oq); (have Oq:=vT); (clear vT); (have Ih:=Lib.hid (show wo.heap.size ≤ w9.heap.size ∧ w4.heap.size ≤ w9.heap.size from ⟨Nat.le_trans F.out.bw.size (Nat.le_of_eq eG.size.symm),Nat.le_trans Il.out.size (Nat.le_of_eq eG.size.symm)⟩)); (clear hx9 eG R F T); (have R:=R2); (clear R2); (have hcA:=AA oL.out)) | (go_at_call 41; (clear hcA); (have hz:=vP Q.out HI.out (by have:=HN.out; rw [List.length_take]; omega) a A4 c4 (fun W' hk => (BD.out.keep (JZ hk (fun k hx => (show k < w1.heap.size from by have h1:=PN.out.q.low k hx; have h2:=HW1.out; omega)))).1)); (refine Go.Calls.mono (show Calls Try.prog 41 _ _ _ from hz) ?_); (clear hz); (intro e w10 hq); (obtain ⟨he,hq10,hk10⟩:=hq); (subst he); (rw [← HRT.out] at hq10); (have M2:=Lib.hid ((hk10.2 gm (AQ M.out) PN.out.ne).trans M.out)); (have B2:=Lib.hid (BD.out.keep (JZ hk10 (fun k hx => (show k < w1.heap.size from by have h1:=PN.out.q.low k hx; have h2:=HW1.out; omega))))); (have R2:=Lib.hid ((R.out.up (S':=(fun k => ((k = gm ∨ k = gp ∨ U k) ∨ (wo.heap.size ≤ k ∧ k < w4.heap.size)) ∨ w9.heap.size ≤ k)) (fun k hk => hk)).keep (JZ hk10 (fun k hx => .inl (.inl (.inr hx)))))); (have vT:=Lib.hid (Oq.out.BQ hk10 (fun k hk => .inl (.inr hk)))); (clear Oq); (have Oq:=vT); (clear vT); (have vU:=Lib.hid ((hk10.2 _ (AQ oL.out) (fun hx => by have h1:=PN.out.q.low _ hx; omega)).trans oL.out)); (have HQX:=Lib.hid hq10); (have OU:=Lib.hid hk10.1); (clear hq10 hk10 Q M BD R oL); (have Q:=HQX); (have M:=M2); (have BD:=B2); (have R:=R2); (have oL:=vU); (clear HQX M2 B2 R2 vU)))
   have hlo:w.heap.size ≤ w1.heap.size:=Nat.le_trans PN.out.q.below.size (by have:=HW1.out; omega)
   have HLO:=Lib.hid hlo
   have HXO:=Lib.hid (show Xo w w10 w1.heap.size w4.heap.size A4 a.body.length w10 from ⟨(By.of HR4.out (.inl (Nat.le_refl _)) (Nat.le_refl _)).kept Oq.out (fun k h1 h2 h3 => by have h4:=PN.out.slt k h3; have:=HW1.out; omega),Kept.refl _ _,Q.out.below⟩)
   clear hlo
   go_loopw [11] (fun v wr => ∃ k:Nat,k ≤ a.body.length ∧ v = .int .i64 k ∧ Xo w w10 w1.heap.size w4.heap.size A4 a.body.length wr) (fun v wr => a.body.length - (intOf v).toNat)
   case atStart => exact ⟨0,Nat.zero_le _,rfl,HXO.out⟩
   case round =>
    obtain ⟨wx,rfl⟩:∃ wx:World,wx = wr:=⟨_,rfl⟩
    obtain ⟨k,hk,rfl,hov⟩:=hrel
    have oM:=Lib.hid hov
    have AF6:=FP.out
    clear hov
    by_cases hlk:k < a.body.length
    ·have hd:decide ((k:Int) < (a.body.length:Int)) = true:=by simp [hlk]
     obtain ⟨g2,x,hA2,hc2,hf2,hst⟩:=oM.out.store HLO.out k hlk
     subst hA2
     have HST:=Lib.hid hst
     clear hst
     go_wp2_with fail
     go_roundw
     case rel => exact ⟨k + 1,by omega,by go_num,HST.out _⟩
     case measure => simp [intOf]; omega
    ·have hd:decide ((k:Int) < (a.body.length:Int)) = false:=by simp; omega
     have HQ:=Lib.hid (Q.out.kept oM.out.2.kept (fun k h1 h2 => by have h5:=HW1.out; have h6:=Ih.out; rcases h2 with h2 | h2 | h2; exact absurd (PN.out.slt k (.inr (.inl h2))) (by omega); exact absurd (PN.out.slt k (.inr (.inr h2))) (by omega); omega) oM.out.2.below)
     have uN:=Lib.hid ((oM.out.2.kept.2 gm (AQ M.out) (fun hx => by have h3:=PN.out.slt gm (.inl rfl); have:=HW1.out; omega)).trans M.out)
     have HR:=Lib.hid (R.out.keep (JZ oM.out.2.kept (fun k hx => .inl (.inr ⟨by have:=HW1.out; omega,hx.2⟩))))
     have HN2:=Lib.hid (show ¬ (gm = gp ∨ Sz U w9 w10 gm) from fun hx => hx.elim (fun h => PN.out.ne (.inl h)) (fun h => h.elim (fun h => PN.out.ne (.inr h)) (fun h => by have h3:=PN.out.slt gm (.inl rfl); have:=Ih.out; omega)))
     have HRN:=Lib.hid (HR.out.up (S':=fun k => k = gm ∨ k = gp ∨ Sz U w9 w10 k) (fun k hk => .inl (hk.elim (fun h => .inl (.inl (.inl h))) (fun h => h.elim (fun h => .inl (.inl (.inr (.inl h)))) (fun h => h.elim (fun h => .inl (.inl (.inr (.inr h)))) (fun h => .inr h.1))))))
     have xC:=Lib.hid (show TP w gp gm (Sz U w9 w10) (LY Ip (sc.take (i + 1))) gU wx from ⟨HQ.out,uN.out,HN2.out,PN.out.ge,HRN.out⟩)
     clear HQ HR HRN HN2 oM Q R M BD oL Oq HR4 HC4
     generalize Sz U w9 w10 = U2 at *
     generalize hX2:LY Ip (sc.take (i + 1)) = X2 at *
     have XL:=Lib.hid hX2
     clear hX2
     obtain ⟨Ay,cy,hy,-,-⟩:=xC.out.r.y
     have m26:wx.cell? ⟨gm,26,none⟩ = some (.slice Ay X2.way.length cy):=(AA uN.out 26).trans hy
     have HFL:=Lib.hid (fun m => XV (xC.out.q.sub (Bd (Below.refl _ _) m)))
     clear hy
     go_wp2_with fail
     go_quiet ((go_at_call 43; refine Calls.quiet_of_same ((HFL.out _).mono fun _ _ hq => ⟨hq.1,hq.2.symm⟩)))
     rename Nat => Gj
     go_wp2_with fail
     obtain ⟨VZ,vV⟩:∃ ww,ww = wx.drewN Gj:=⟨_,rfl⟩
     have HT1:=Lib.hid (xC.out.below (Bd (Below.refl _ _) Gj))
     rw [← vV] at HT1 ⊢
     clear vV xC HFL uN m26
     go_loopw [12] (fun v wr => ∃ s:Nat,s ≤ 2 ∧ v = .int .i64 s ∧ TP w gp gm U2 X2 gU wr) (fun v wr => 2 - (intOf v).toNat)
     case atStart => exact ⟨0,by decide,rfl,HT1.out⟩
     case round =>
      obtain ⟨wz,rfl⟩:∃ wz:World,wz = wr:=⟨_,rfl⟩
      obtain ⟨s,hs,rfl,hTz⟩:=hrel
      have nC:=Lib.hid hTz
      clear hTz HT1
      by_cases hsl:s < 2
      ·have hds:decide ((s:Int) < 2) = true:=by simp; omega
       have hsl2:(s:Int) < 2:=by omega
       obtain ⟨nx,Aq,cq,Ao,co,-,hev⟩:=nC.out.r.e s hsl
       have m1:wz.cell? ⟨gm,s * 12 + 1,none⟩ = some (.int .i64 (X2.sd s).end_.phase):=(AA nC.out.m _).trans (hev 1 _ rfl)
       have m6:wz.cell? ⟨gm,s * 12 + 6,none⟩ = some (.slice Aq (X2.sd s).end_.queue.length cq):=(AA nC.out.m _).trans (hev 6 _ rfl)
       have FH:=Lib.hid (fun m => Zo (nC.out.q.sub (Bd (Below.refl _ _) m)) s hsl)
       have HQU:=Lib.hid (fun m => Zp (nC.out.q.sub (Bd (Below.refl _ _) m)) s hsl)
       clear hev
       go_wp2_with fail
       go_quiet ((first | (go_at_call 40; refine Calls.quiet_of_same ((FH.out _).mono fun _ _ hq => ⟨hq.1,hq.2.symm⟩)) | (go_at_call 47; refine Calls.quiet_of_same ((HQU.out _).mono fun _ _ hq => ⟨hq.1,hq.2.symm⟩))))
       go_wp2_with fail
       all_goals (
        go_roundw
        case rel => exact ⟨s + 1,by omega,by go_num,nC.out.below (Bd (Below.refl _ _) _)⟩
        case measure => simp [intOf]; omega)
      ·have hds:decide ((s:Int) < 2) = false:=by simp; omega
       go_wp2_with fail
       go_roundg (n - (i + 1))
       case measure => have:=HM.out; omega
       case rel => exact ⟨i + 1,U2,gU,rfl,by omega,by first | rfl | simp,by rw [XL.out]; exact nC.out⟩
  ·have hd:decide ((i:Int) < (n:Int)) = false:=by simp; omega
   have hi:=VX (sc.take i) Kq (by have:=HN.out; rw [List.length_take]; omega)
   have HI:=Lib.hid hi
   have AAq:=Lib.hid (fun (wz:World) (hT:TP w gp gm U (LY Ip (sc.take i)) cs wz) (s:Nat) (hs:s < 2) => mW hT.q HI.out (by have:=HN.out; rw [List.length_take]; omega) s hs)
   have HLEN:=Lib.hid (fun (s:Nat) (hs:s < 2) => (show ((LY Ip (sc.take i)).sd s).log.length ≤ 1000000 from by have h1:=(HI.out.p.side s hs).len; have h2:=HN.out; rw [List.length_take] at h1; omega))
   have AAr:=Lib.hid (fun (s:Nat) (hs:s < 2) => (show ∀ x ∈ ((LY Ip (sc.take i)).sd s).log,x.body.length ≤ 1000000 from fun x hx => Nat.le_trans ((HI.out.p.side s hs).short x hx) (by decide)))
   clear hi HI
   generalize LY Ip (sc.take i) = X at *
   go_wp2_with fail
   go_loopw [13] (fun v wr => ∃ t:Nat,t ≤ 2 ∧ v = .int .i64 t ∧ TP w gp gm U X cs wr) (fun v wr => 2 - (intOf v).toNat)
   case atStart => exact ⟨0,by decide,rfl,PN.out⟩
   case round =>
    obtain ⟨VZ,rfl⟩:∃ VZ:World,VZ = wr:=⟨_,rfl⟩
    obtain ⟨t,ht,rfl,hT1⟩:=hrel
    have HT1:=Lib.hid hT1
    clear hT1
    by_cases htl:t < 2
    ·have hdt:decide ((t:Int) < 2) = true:=by simp; omega
     go_wp2_with fail
     go_loopw [14] (fun v wr => ∃ s:Nat,s ≤ 2 ∧ v = .int .i64 s ∧ TP w gp gm U X cs wr) (fun v wr => 2 - (intOf v).toNat)
     case atStart => exact ⟨0,by decide,rfl,HT1.out⟩
     case round =>
      obtain ⟨w12,rfl⟩:∃ w12:World,w12 = wr:=⟨_,rfl⟩
      obtain ⟨s,hs,rfl,hT2⟩:=hrel
      have HT2:=Lib.hid hT2
      clear hT2
      by_cases hsl:s < 2
      ·have hds:decide ((s:Int) < 2) = true:=by simp; omega
       have hsl2:(s:Int) < 2:=by omega
       have Uk:=Lib.hid (AAq.out w12 HT2.out s hsl)
       have nZ:=Lib.hid (HLEN.out s hsl)
       have HSH:=Lib.hid (AAr.out s hsl)
       have zy:=Lib.hid hsl
       go_wp2_with (first | (go_at_call 38; (have hc:=Uk.out); (with_reducible refine hc.mono ?_); clear hc; rintro e oJ ⟨v,rfl,hR,hb3⟩; (obtain ⟨A3,c3,hv⟩:=Kd.Am hR); (subst hv); (have HR3:=Lib.hid hR); (have HB3:=Lib.hid hb3); (have HT3:=Lib.hid (HT2.out.below hb3)); (obtain ⟨Ar,cr,hlc,hcr,hLr⟩:=HT3.out.r.l s zy.out); (have mL:oJ.cell? ⟨gm,24 + s,none⟩ = some (.slice Ar (X.sd s).log.length cr):=(AA HT3.out.m _).trans hlc); (have HLR:=Lib.hid hLr); (have HCR:=Lib.hid hcr); (clear hR hb3 hlc hcr hLr)) | (go_at_call 48; (have hc:=vO HR3.out HLR.out HCR.out nZ.out); (with_reducible refine hc.mono ?_); clear hc; rintro e wZ ⟨rfl,kd,rfl⟩))
       have HLX:=Lib.hid (Lx.start (w0:=w) (w:=w12) (Kd.Ee HR3.out (Bd (Below.refl _ _) kd)) HSH.out (Bd HB3.out kd) (HT2.out.q.below.trans ((Bd HB3.out kd).mono HT2.out.q.below.size)))
       have hle:=nZ.out
       generalize (oJ.drewN kd).heap.size = hh at *
       generalize hnl:(X.sd s).log.length = nl at *
       go_loopw [16] (fun v wr => ∃ j:Nat,j ≤ nl ∧ v = .int .i64 j ∧ Lx w w12 w12.heap.size hh A3 nl wr) (fun v wr => nl - (intOf v).toNat)
       case atStart => exact ⟨0,Nat.zero_le _,rfl,HLX.out⟩
       case round =>
        obtain ⟨w16,rfl⟩:∃ w16:World,w16 = wr:=⟨_,rfl⟩
        obtain ⟨j,hj,rfl,hX⟩:=hrel
        have HX:=Lib.hid hX
        clear hX HLX HLR HR3 mL
        by_cases hjl:j < nl
        ·have hdj:decide ((j:Int) < (nl:Int)) = true:=by simp [hjl]
         obtain ⟨g3,Ab,m,cb,hA3,hm6,hLb⟩:=HX.out.body j hjl
         subst hA3
         have Yc:=Lib.hid hLb
         have c5:=hLb.cell
         clear hLb
         go_wp2_with fail
         go_loopw [17] (fun v wr => ∃ k2:Nat,k2 ≤ m ∧ v = .int .i64 k2 ∧ Lb w w12 w12.heap.size hh (some ⟨g3,0,none⟩) nl j g3 Ab m cb wr) (fun v wr => m - (intOf v).toNat)
         case atStart => exact ⟨0,Nat.zero_le _,rfl,Yc.out⟩
         case round =>
          obtain ⟨w17,rfl⟩:∃ w17:World,w17 = wr:=⟨_,rfl⟩
          obtain ⟨k2,hk2,rfl,hB⟩:=hrel
          have HB:=Lib.hid hB
          clear hB Yc c5
          have c5:=HB.out.cell
          by_cases hkl:k2 < m
          ·have hdk:decide ((k2:Int) < (m:Int)) = true:=by simp [hkl]
           obtain ⟨g4,x,hAb,hc4,hf4,hst⟩:=HB.out.store HT2.out.q.below.size k2 hkl
           subst hAb
           have HST:=Lib.hid hst
           clear hst
           go_wp2_with fail
           go_roundw
           case rel => exact ⟨k2 + 1,by omega,by go_num,HST.out _⟩
           case measure => simp [intOf]; omega
          ·have hdk:decide ((k2:Int) < (m:Int)) = false:=by simp; omega
           go_wp2_with fail
           go_roundw
           case rel => exact ⟨j + 1,by omega,by go_num,HB.out.1⟩
           case measure => simp [intOf]; omega
        ·have hdj:decide ((j:Int) < (nl:Int)) = false:=by simp; omega
         go_wp2_with fail
         go_roundw
         case rel => exact ⟨s + 1,by omega,by go_num,HT2.out.wo HX.out.2⟩
         case measure => simp [intOf]; omega
      ·have hds:decide ((s:Int) < 2) = false:=by simp; omega
       go_wp2_with fail
       go_roundw
       case rel => exact ⟨t + 1,by omega,by go_num,HT2.out⟩
       case measure => simp [intOf]; omega
    ·have hdt:decide ((t:Int) < 2) = false:=by simp; omega
     go_wp2_with (first | (go_at_call 38; (have hc:=mZ VZ gp 2 rfl rfl); (with_reducible refine hc.mono ?_); clear hc; rintro e w9 ⟨rfl,rfl⟩) | (go_at_call 40; (have hc:=Zq VZ gp (-1) rfl rfl); (with_reducible refine hc.mono ?_); clear hc; rintro e w9 ⟨rfl,rfl⟩) | (go_at_call 47; (have hc:=Zr VZ gp 2 rfl rfl); (with_reducible refine hc.mono ?_); clear hc; rintro e w9 ⟨rfl,rfl⟩))
     all_goals (go_ret; exact ⟨rfl,HT1.out.q.below⟩)
end Go.Proofs.Ytnkkgofpifhoeaa.Rf
end
section
namespace Go.Proofs.Ytnkkgofpifhoeaa.Pr
open Go.ChangeShapes Go.WideShapes Go.ChangeAt Go.RowKit Go.Deep Go.Joins Go.Proofs.YtnkkgofpifhoeaaW.PrintWords
section
variable {H:Type} {enc:TypeId × Value → H} {w:World} {base:Nat} {held:Bool}
theorem Zt {fuel:Nat} {v:Value} {y:DataW H × List MemPlace} (h:DataW.trod enc Try.prog w base (fun _ => true) held fuel 22 [v] = some y) :
  ∃ A l c,v = .slice A l.length c ∧ l.length ≤ c ∧ (Kd.int .u8).C w A l.length l:=by
 rcases open_ints Try.underlying22 Try.underlying5 (by kernel_rfl) h with ⟨hcs,_⟩ | ⟨a',len',cap',zs,hcs,_,hl',hm',hz,_,hcell,_⟩
 ·have hv:v = .slice none 0 0:=by simpa using hcs
  subst hv
  exact ⟨none,[],0,rfl,Nat.le_refl _,rfl,by decide,fun h => absurd h (by decide)⟩
 ·have hv:v = .slice (some a') len' cap':=by simpa using hcs
  subst hv
  simp only [if_true] at hz
  have hmx:maxLen = 9223372036854775807:=rfl
  have hlen:(zs.take len').length = len':=by rw [List.length_take]; omega
  refine ⟨some a',zs.take len',cap',by rw [hlen],by rw [hlen]; exact hl',?_⟩
  rw [hlen]
  refine Kd.TI (d:=(0:Int)) (h1:=fun _ => rfl) ⟨hlen,by omega,fun hlp => ⟨a',rfl,fun c hc => ?_⟩⟩
  have e1:=hcell c (by omega)
  rw [e1]
  rw [List.getD_eq_getElem?_getD,List.getD_eq_getElem?_getD,List.getElem?_take_of_lt hc]
theorem eH {P:Program} {t:TypeId} {f0 f1 f2 f3:Field} {fuel:Nat} {v0 v1 v2 v3:Value} {x:DataW H × List MemPlace} (hs:P.underlying t = some (.struct #[f0,f1,f2,f3])) (hone:oneCellFields P #[f0,f1,f2,f3] = true) (h:DataW.trod enc P w base (fun _ => true) held fuel t [v0,v1,v2,v3] = some x) :
  ∃ (y0 y1 y2 y3:DataW H × List MemPlace) (n:Nat),DataW.trod enc P w base (fun _ => true) held n f0.type [v0] = some y0 ∧ DataW.trod enc P w base (fun _ => true) held n f1.type [v1] = some y1 ∧ DataW.trod enc P w base (fun _ => true) held n f2.type [v2] = some y2 ∧ DataW.trod enc P w base (fun _ => true) held n f3.type [v3] = some y3:=by
 obtain ⟨y0,y1,y2,y3,n,_,_,h0,h1,h2,h3⟩:=trod_struct4 hs h
 obtain ⟨o0,k0⟩:=hone_of hone 0 f0 rfl
 obtain ⟨o1,k1⟩:=hone_of hone 1 f1 rfl
 obtain ⟨o2,k2⟩:=hone_of hone 2 f2 rfl
 obtain ⟨o3,k3⟩:=hone_of hone 3 f3 rfl
 exact ⟨y0,y1,y2,y3,n,by simpa [o0,k0] using h0,by simpa [o1,k1] using h1,by simpa [o2,k2] using h2,by simpa [o3,k3] using h3⟩
instance:Inhabited Act:=⟨nilA⟩
theorem nD {fuel:Nat} {cs:List Value} {x:DataW H × List MemPlace} (hl:cs.length = 4) (h:DataW.trod enc Try.prog w base (fun _ => true) held fuel 72 cs = some x):∃ a:Act,act.K w a cs:=by
 match cs,hl with
 | [v0,v1,v2,v3],_ =>
  obtain ⟨y0,y1,y2,y3,n,h0,h1,h2,h3⟩:=eH Try.underlying72 (by kernel_rfl) h
  obtain ⟨a0,e0,_,_⟩:=DataW.trod_int Try.underlying3 h0
  obtain ⟨a1,e1,_,_⟩:=DataW.trod_int Try.underlying3 h1
  obtain ⟨a2,e2,_,_⟩:=DataW.trod_int Try.underlying3 h2
  obtain ⟨A,l,c,e3,h4,h5⟩:=Zt h3
  simp at e0 e1 e2
  subst e0 e1 e2 e3
  exact ⟨⟨a0,a1,a2,l⟩,Zk.2 ⟨A,c,rfl,h4,h5⟩⟩
theorem Qi {fuel:Nat} {a0:Option Addr} {len0 cap0:Nat} {x:DataW H × List MemPlace} (h:DataW.trod enc Try.prog w base (fun _ => true) held fuel 60 [.slice a0 len0 cap0] = some x):∃ l,act.C w a0 len0 l:=by
 rcases open_slice Try.underlying60 h with ⟨hcs,_⟩ | ⟨a,len,cap,m,n,D,Pl,hcs,_,hl,hm,hmm,_,hx⟩
 ·simp at hcs
  obtain ⟨rfl,rfl,rfl⟩:=hcs
  exact ⟨[],rfl,by decide,fun h => absurd h (by decide)⟩
 ·simp at hcs
  obtain ⟨rfl,rfl,rfl⟩:=hcs
  simp only [if_true] at hmm
  subst hmm
  have hc4:Try.prog.cellsOf 72 = 4:=by kernel_rfl
  rw [hc4] at hx
  have each:∀ i,i < len0 → ∃ q:Act,∃ cs',cs'.length = 4 ∧ act.K w q cs' ∧ ∀ j u,cs'[j]? = some u → w.cell? (a.add (i * 4 + j)) = some u:=by
   intro i hi
   obtain ⟨cs',h1,h2⟩:=hx i (by omega)
   obtain ⟨_,hlen,hcell⟩:=World.cells?_some h1
   obtain ⟨q,hq⟩:=nD hlen h2
   refine ⟨q,cs',hlen,hq,fun j u hu => ?_⟩
   have hj:j < 4:=by
    have:=(List.getElem?_eq_some_iff.1 hu).1
    omega
   have:=hcell j hj
   rw [Deep.add_add] at this
   rw [this]; exact hu
  obtain ⟨q,hq⟩:=choose_lt each
  have hmx:maxLen = 9223372036854775807:=rfl
  refine ⟨(List.range len0).map q,by simp,by omega,fun hp => ⟨a,rfl,fun j p hj => ?_⟩⟩
  have hjl:j < len0:=by
   by_cases hjl:j < len0
   ·exact hjl
   ·rw [List.getElem?_eq_none (by simp; omega)] at hj; cases hj
  rw [List.getElem?_map,List.getElem?_range hjl] at hj
  have hpq:q j = p:=Option.some.inj hj
  subst hpq
  exact hq j hjl
end
end Go.Proofs.Ytnkkgofpifhoeaa.Pr
end
