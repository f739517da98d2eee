/- What the laws of a pair are proved with: links and pairs in memory, what their methods do, what a pair keeps to (part 9). -/
import Derived.Test.YtnkkgofpifhoeaaPG05
import Derived.Test.YtnkkgofpifhoeaaPG06
import Derived.Test.YtnkkgofpifhoeaaPG07
import Derived.Test.YtnkkgofpifhoeaaPG08
import Derived.Laws.StructEq
import Derived.Test.YtnkkgofpifhoeaaProg
import Derived.Below
import Derived.Deep.Draws
import Derived.Deep.AppendLies
import Derived.Maps.AppendAt
import Derived.OwnWalk
import Derived.Laws.BytesArg
import Derived.Laws.MakeOwn
import Derived.Laws.OwnMore
import Derived.Deep.OwnRows
import Derived.Tactics
import Derived.Lib.ConvBytes
import Derived.Laws.Slices
import Derived.WalkKit
import Derived.KernelRfl
import Derived.RowKit3
import Derived.Deep.LoopGhost
import Derived.Deep.QuietTactic
import Derived.BigQuiet
import Derived.WideLaws
import Derived.Deep.DeepCutAuto
import Derived.Deep.CutBlock
import Derived.Deep.RegionHeld3
import Derived.Laws.Rows
import Derived.Lib.AppendStr
import Derived.ArgAppend
import Derived.Laws.IdiomCopy
import Derived.OrdersHeld
import Derived.Laws.BitsLemmas
import Derived.RowKit
set_option linter.unusedSimpArgs false
set_option linter.unusedVariables false
set_option maxRecDepth 100000
set_option maxHeartbeats 16000000
namespace Go.Proofs.Ytnkkgofpifhoeaa
theorem Z2 {p:Prop} (h:p:=by
 refine Qx (i:=0) (j:=4) (Ni:=some 12) (Nj:=some 5) vC vF rfl rfl rfl rfl (by kernel_rfl) (by decide) (by decide) (fun K hK => ?_) (fun K hK => ?_)
 ·skip
  refine BK Try.func59 (by kernel_rfl) rfl #[] (by rfl) rfl rfl (by (try simp only [List.map_toArray,List.map_cons,List.map_nil]); first | done | rfl) ?_
  refine (rows_any _).mono ?_
  rintro e w3 ⟨rfl,hb⟩
  refine ⟨_,rfl,?_⟩
  have Ew:=(hb.block w.heap.size (AU hHeld)).trans hHeld
  have Aq:=HW.out.trans (hb.mono HW.out.size)
  clear HW hb
  have HW:=Lib.hid Aq
  clear Aq
  refine hK.out _ _ Ew (fun hHeld => ?_)
  clear hK K Ew
  refine nm 12 ?_
  refine pu 3 15 vG ?_
  refine on 4 (some 5) ZB fun K hK => ?_
  refine Dt (by rfl) (N:=5) rfl (cs:=#[.bool false,.bool false,.bool false,.bool false,.int .i64 0,.int .i64 0]) (t:=107) (by first | (go_simp; done) | (go_simp; rfl)) ?_
  intro g hg w4 hbx hb3
  have hgt:w.heap.size < g:=by have:=AU hHeld; omega
  have Ew:=(hb3.block w.heap.size (AU hHeld)).trans hHeld
  have Aq:=HW.out.trans (hb3.mono HW.out.size)
  clear HW hb3 hg
  have HW:=Lib.hid Aq
  clear Aq
  refine hK.out _ _ Ew (fun hHeld => ?_)
  clear hK K Ew
  refine nm 5 ?_
  have h9:=hcont g _ ⟨hbx,HW.out,hgt,hHeld⟩
  simp only [Ak,Act.put,sA,sZ,sS] at h9
  exact h9
 ·skip
  refine Dt (by rfl) (N:=5) rfl (cs:=#[.bool false,.bool false,.bool false,.bool false,.int .i64 0,.int .i64 0]) (t:=107) (by first | (go_simp; done) | (go_simp; rfl)) ?_
  intro g hg w4 hbx hb3
  have hgt:w.heap.size < g:=by have:=AU hHeld; omega
  have Ew:=(hb3.block w.heap.size (AU hHeld)).trans hHeld
  have Aq:=HW.out.trans (hb3.mono HW.out.size)
  clear HW hb3 hg
  have HW:=Lib.hid Aq
  clear Aq
  refine hK.out _ _ Ew (fun hHeld => ?_)
  clear hK K Ew
  refine nm 5 ?_
  refine on 0 (some 12) vH fun K hK => ?_
  refine BK Try.func59 (by kernel_rfl) rfl #[] (by rfl) rfl rfl (by (try simp only [List.map_toArray,List.map_cons,List.map_nil]); first | done | rfl) ?_
  refine (rows_any _).mono ?_
  rintro e w3 ⟨rfl,hb⟩
  refine ⟨_,rfl,?_⟩
  have Ew:=(hb.block w.heap.size (AU hHeld)).trans hHeld
  have Aq:=HW.out.trans (hb.mono HW.out.size)
  have DU:=(hb.block g (AU hbx)).trans hbx
  clear HW hb
  have HW:=Lib.hid Aq
  clear Aq
  refine hK.out _ _ Ew (fun hHeld => ?_)
  clear hK K Ew
  refine nm 12 ?_
  refine pu 3 15 ZB ?_
  have h9:=hcont g _ ⟨DU,HW.out,hgt,hHeld⟩
  simp only [Ak,Act.put,sA,sZ,sS] at h9
  exact h9):p:=h
end Go.Proofs.Ytnkkgofpifhoeaa
section
namespace Go.Proofs.Ytnkkgofpifhoeaa.Pk
open Go.RowKit Go.Proofs.Ytnkkgofpifhoeaa.Base Go.Proofs.YtnkkgofpifhoeaaW.PrintWords Go.Proofs.YtnkkgofpifhoeaaW.PrintLast Go.Proofs.Ytnkkgofpifhoeaa.Steps
theorem NF (A:Option Addr) (c:Nat) (w:World) :
  Calls Try.prog 16 #[.slice A 0 c] w fun e w' => e = .returned (.tuple #[.agg #[.int .i64 0,.int .u32 0,.int .u32 0,.int .u32 0,.int .u32 0,.int .u32 0,.int .u32 0,.int .u32 0,.complex .f64 0 0,.slice none 0 0],.int .i64 103]) ∧ Below w.heap.size w w':=by
 have DZ:=Try.underlying27
 have hbz:=Gn
 have hal:=Gp
 go_enter Try.func16,Try.ntmps16
 go_wp2_with (first | ((with_reducible refine gate_ (.store 27 (.tmp 2) (.tmp 12)) rfl ?_); refine Ae rfl rfl 27 (.tmp 2) (.tmp 12) rfl w.heap.size _ rfl rfl 27 #[.int .i64 0,.int .u32 0,.int .u32 0,.int .u32 0,.int .u32 0,.int .u32 0,.int .u32 0,.int .u32 0,.complex .f64 0 0,.slice none 0 0] (heap_alloc_new w _) (by kernel_rfl) rfl (by kernel_rfl) ?_; intro w5 hb5 CQ; have Hy:=Lib.hid hb5; have Ey:=Lib.hid CQ; clear hb5 CQ))
 refine bodyPost_ret (v:=.tuple #[.agg #[.int .i64 0,.int .u32 0,.int .u32 0,.int .u32 0,.int .u32 0,.int .u32 0,.int .u32 0,.int .u32 0,.complex .f64 0 0,.slice none 0 0],.int .i64 103]) ?_ rfl ⟨rfl,Ey.out.below ((Below.refl _ _).alloc (Nat.le_refl _) _) (Nat.le_refl _)⟩
 have hl5:=run_loadVar_row (P:=Try.prog) w5 w.heap.size 27 27 _ (0,0) _ Hy.out Try.underlying27 rfl (by kernel_rfl)
 exact Ag Try.results16 _ _ rfl rfl hl5
theorem NG (ad:Addr) (n c:Nat) (k:Int) (w:World) (hx0:w.cell? ad = some (.int .u8 k)) (h0:0 < n) (hk:k < 1 ∨ 4 < k) (hk0:0 ≤ k) (hk1:k < 256) :
  Calls Try.prog 16 #[.slice (some ad) n c] w fun e w' => e = .returned (.tuple #[.agg #[.int .i64 0,.int .u32 0,.int .u32 0,.int .u32 0,.int .u32 0,.int .u32 0,.int .u32 0,.int .u32 0,.complex .f64 0 0,.slice none 0 0],.int .i64 100]) ∧ Below w.heap.size w w':=by
 have DZ:=Try.underlying27
 have hbz:=Gn
 have hal:=Gp
 have hne:((n:Int) == 0) = false:=beq_eq_false_iff_ne.2 (by omega)
 have hx1:=fun o => Au hx0 o
 rcases hk with hk | hk
 all_goals
  go_enter Try.func16,Try.ntmps16
  go_wp2_with (first | ((with_reducible refine gate_ (.store 27 (.tmp 2) (.tmp 23)) rfl ?_); refine Ae rfl rfl 27 (.tmp 2) (.tmp 23) rfl w.heap.size _ rfl rfl 27 #[.int .i64 0,.int .u32 0,.int .u32 0,.int .u32 0,.int .u32 0,.int .u32 0,.int .u32 0,.int .u32 0,.complex .f64 0 0,.slice none 0 0] (heap_alloc_new w _) (by kernel_rfl) rfl (by kernel_rfl) ?_; intro w5 hb5 CQ; have Hy:=Lib.hid hb5; have Ey:=Lib.hid CQ; clear hb5 CQ))
  refine bodyPost_ret (v:=.tuple #[.agg #[.int .i64 0,.int .u32 0,.int .u32 0,.int .u32 0,.int .u32 0,.int .u32 0,.int .u32 0,.int .u32 0,.complex .f64 0 0,.slice none 0 0],.int .i64 100]) ?_ rfl ⟨rfl,Ey.out.below ((Below.refl _ _).alloc (Nat.le_refl _) _) (Nat.le_refl _)⟩
  have hl5:=run_loadVar_row (P:=Try.prog) w5 w.heap.size 27 27 _ (0,0) _ Hy.out Try.underlying27 rfl (by kernel_rfl)
  exact Ag Try.results16 _ _ rfl rfl hl5
theorem Oi (A:Option Addr) (c:Nat) (l:List Int) (w:World) (hC:Kd.C (Kd.int .u8) w A l.length l) (hcap:l.length ≤ c) (hby:Bv l) :
  Calls Try.prog 16 #[.slice A l.length c] w (Bf l w):=by
 by_cases h0:l.length = 0
 ·have hd:Dh l = 103:=by rw [Dh,if_pos h0]
  have hc:Calls Try.prog 16 #[.slice A l.length c] w fun e w' => e = .returned (.tuple #[.agg #[.int .i64 0,.int .u32 0,.int .u32 0,.int .u32 0,.int .u32 0,.int .u32 0,.int .u32 0,.int .u32 0,.complex .f64 0 0,.slice none 0 0],.int .i64 103]) ∧ Below w.heap.size w w':=by
   rw [h0]
   exact NF A c w
  exact hc.mono fun e w' h => Bf.bad hd (by decide) h
 obtain ⟨ad,eA,hx⟩:=Kd.EI hC 0 (by omega) (by omega)
 subst eA
 have ha0:ad.add (0:Int).toNat = ad:=by simp [Addr.add]
 rw [ha0] at hx
 have hr:=hby.at 0 (by omega)
 have hr0:0 ≤ rd l 0:=hr.1
 have hr1:rd l 0 < 256:=hr.2
 by_cases hk:rd l 0 < 1 ∨ 4 < rd l 0
 ·have hd:Dh l = 100:=by rw [Dh,if_neg h0,if_pos hk]
  exact (NG ad l.length c _ w hx (by omega) hk hr0 hr1).mono fun e w' h => Bf.bad hd (by decide) h
 have hkk:rd l 0 = 1 ∨ rd l 0 = 2 ∨ rd l 0 = 3 ∨ rd l 0 = 4:=by omega
 have n4:=fun a => Vq l a hby
 have n8:=fun a => Vr l a hby
 rcases hkk with hk1 | hk1 | hk1 | hk1
 ·by_cases hs:l.length < 14
  ·have hd:Dh l = 103:=by rw [Dh,if_neg h0,if_neg hk,if_pos (by rw [hk1]; exact hs)]
   exact (iE.decode_short ad l.length c l w hC rfl hk1 (by omega) hs).mono fun e w' h => Bf.bad hd (by decide) h
  by_cases hm:14 < l.length
  ·have hd:Dh l = 102:=by rw [Dh,if_neg h0,if_neg hk,if_neg (by rw [hk1]; exact hs),if_pos (by rw [hk1]; exact hm)]
   exact (iE.Dv ad l.length c l w hC rfl hk1 (by omega) hm).mono fun e w' h => Bf.bad hd (by decide) h
  have hp:Ef l = TT l:=by rw [Ef,if_pos hk1]
  have hd:Dh l = (TT l).code:=by rw [Dh,if_neg h0,if_neg hk,if_neg (by rw [hk1]; exact hs),if_neg (by rw [hk1]; exact hm),hp]
  refine (iE.Ce ad l.length c l (l.drop 1) w rfl hC rfl hcap hk1 (by omega) (by omega) (by omega)).mono ?_
  intro e w' h
  have n1:=Vs l 13 hby (by omega)
  simp only [AP,AO,FN,Gm,num1,Lj,List.drop_drop,Nat.reduceAdd,n4,n8,n1] at h
  exact Bf.flat (TT l) hp hd rfl h
 ·by_cases hs:l.length < 22
  ·have hd:Dh l = 103:=by rw [Dh,if_neg h0,if_neg hk,if_pos (by rw [hk1]; exact hs)]
   exact (iG.decode_short ad l.length c l w hC rfl hk1 (by omega) hs).mono fun e w' h => Bf.bad hd (by decide) h
  by_cases hm:1021 < l.length
  ·have hd:Dh l = 102:=by rw [Dh,if_neg h0,if_neg hk,if_neg (by rw [hk1]; exact hs),if_pos (by rw [hk1]; exact hm)]
   exact (iG.Dv ad l.length c l w hC rfl hk1 (by omega) hm).mono fun e w' h => Bf.bad hd (by decide) h
  have hp:Ef l = TU l:=by rw [Ef,if_neg (by rw [hk1]; decide),if_pos hk1]
  have hd:Dh l = (TU l).code:=by rw [Dh,if_neg h0,if_neg hk,if_neg (by rw [hk1]; exact hs),if_neg (by rw [hk1]; exact hm),hp]
  refine (iG.Ce ad l.length c l (l.drop 1) w rfl hC rfl hcap hk1 (by omega) (by omega) (by omega)).mono ?_
  intro e w' h
  simp only [AP,AO,FN,Gm,num1,Lj,List.drop_drop,Nat.reduceAdd,n4,n8] at h
  exact Bf.long (TU l) hp hd h
 ·by_cases hs:l.length < 17
  ·have hd:Dh l = 103:=by rw [Dh,if_neg h0,if_neg hk,if_pos (by rw [hk1]; exact hs)]
   exact (iJ.decode_short ad l.length c l w hC rfl hk1 (by omega) hs).mono fun e w' h => Bf.bad hd (by decide) h
  by_cases hm:17 < l.length
  ·have hd:Dh l = 102:=by rw [Dh,if_neg h0,if_neg hk,if_neg (by rw [hk1]; exact hs),if_pos (by rw [hk1]; exact hm)]
   exact (iJ.Dv ad l.length c l w hC rfl hk1 (by omega) hm).mono fun e w' h => Bf.bad hd (by decide) h
  have hp:Ef l = TY l:=by rw [Ef,if_neg (by rw [hk1]; decide),if_neg (by rw [hk1]; decide),if_pos hk1]
  have hd:Dh l = (TY l).code:=by rw [Dh,if_neg h0,if_neg hk,if_neg (by rw [hk1]; exact hs),if_neg (by rw [hk1]; exact hm),hp]
  refine (iJ.Ce ad l.length c l (l.drop 1) w rfl hC rfl hcap hk1 (by omega) (by omega) (by omega)).mono ?_
  intro e w' h
  simp only [AP,AO,FN,Gm,num1,Lj,List.drop_drop,Nat.reduceAdd,n4,n8] at h
  exact Bf.flat (TY l) hp hd rfl h
 ·by_cases hs:l.length < 41
  ·have hd:Dh l = 103:=by rw [Dh,if_neg h0,if_neg hk,if_pos (by rw [hk1]; exact hs)]
   exact (iL.decode_short ad l.length c l w hC rfl hk1 (by omega) hs).mono fun e w' h => Bf.bad hd (by decide) h
  by_cases hm:41 < l.length
  ·have hd:Dh l = 102:=by rw [Dh,if_neg h0,if_neg hk,if_neg (by rw [hk1]; exact hs),if_pos (by rw [hk1]; exact hm)]
   exact (iL.Dv ad l.length c l w hC rfl hk1 (by omega) hm).mono fun e w' h => Bf.bad hd (by decide) h
  have hp:Ef l = Tc l:=by rw [Ef,if_neg (by rw [hk1]; decide),if_neg (by rw [hk1]; decide),if_neg (by rw [hk1]; decide)]
  have hd:Dh l = (Tc l).code:=by rw [Dh,if_neg h0,if_neg hk,if_neg (by rw [hk1]; exact hs),if_neg (by rw [hk1]; exact hm),hp]
  refine (iL.Ce ad l.length c l (l.drop 1) w rfl hC rfl hcap hk1 (by omega) (by omega) (by omega)).mono ?_
  intro e w' h
  simp only [AP,AO,FN,Gm,num1,Lj,List.drop_drop,Nat.reduceAdd,n4,n8] at h
  exact Bf.flat (Tc l) hp hd rfl h
end Go.Proofs.Ytnkkgofpifhoeaa.Pk
end
section
namespace Go.Proofs.YtnkkgofpifhoeaaW.PrintWords
theorem EH.one {α:Type} {R:α → List Value → Prop} {ps:List α} {cs:List Value} {p:α} {v:Value} (hp:R p [v]) (h:EH R 1 ps cs):EH R 1 (p :: ps) (v :: cs):=by
 refine ⟨by simp [h.1],fun j q hq => ?_⟩
 cases j with
 | zero =>
  simp only [List.getElem?_cons_zero,Option.some.injEq] at hq
  subst hq
  simpa using hp
 | succ j =>
  simp only [List.getElem?_cons_succ] at hq
  have h1:=h.2 j q hq
  simpa [Nat.mul_one] using h1
end Go.Proofs.YtnkkgofpifhoeaaW.PrintWords
end
section
namespace Go.Proofs.YtnkkgofpifhoeaaW.PrintWords
open Go.RowKit
section
variable {P:Program} {ops:Array Oper} {rest:List Oper} {o:Oper} {a:Act} {Q:Exit → Act → World → Prop} {W:World}
theorem Cf (hw:Region.wanted o (yielded ops a.tmps) = true) (h:wpList P ops Q ({ o with guard:=none } :: rest) a W):wpList P ops Q (o :: rest) a W:=by
 have h1:Region.wanted { o with guard:=none } (yielded ops a.tmps) = true:=rfl
 unfold wpList at h ⊢
 rw [if_pos h1] at h
 rw [if_pos hw]
 exact h
end
end Go.Proofs.YtnkkgofpifhoeaaW.PrintWords
end
section
namespace Go.Proofs.Ytnkkgofpifhoeaa.Ik
open Go.RowKit Go.Proofs.YtnkkgofpifhoeaaW.PrintWords Go.Proofs.YtnkkgofpifhoeaaW.PrintLast

theorem info5:(Try.prog.info? 5).map (fun i => (i.zero,i.size,i.bytes)) = some (some (.int .u8 0),1,1):=by kernel_rfl

def Ar.l0:Nat → List Int → Int → Int → Option (List Int)
 | 0,_,_,_ => none
 | k + 1,x0,x1,x7 => if x7 ≥ 0 then (if 0 ≤ (wrap64 (8 * x7)) then (if x0.length < 140737488355328 then (Ar.l0 k (x0 ++ [(shr .u64 x1 (wrap64 (8 * x7))) % 256]) x1 (wrap64 (x7 - 1))) else (none)) else (none)) else (some x0)
def Ar.f (k:Nat) (l0:List Int) (a1:Int) (a2:Int):Option (List Int):=Ar.l0 k l0 a1 (wrap64 (a2 - 1))
theorem Ar.calls (k:Nat) (VS:Nat → Prop) (Oj:Value) (l0:List Int) (a1:Int) (a2:Int) (r:List Int) (w0 w:World) (hB:Below w0.heap.size w0 w) (ho0:Kd.R (Kd.int .u8) 5 w w0.heap.size VS Oj l0) (h:Ar.f k l0 a1 a2 = some r) :
  Calls Try.prog 64 #[Oj,.int .u64 a1,.int .i64 a2] w fun e w' => ∃ oV:Value,e = .returned (oV) ∧ Kd.R (Kd.int .u8) 5 w' w0.heap.size (fun k_ => (VS k_ ∨ w.heap.size ≤ k_)) oV r ∧ Below w0.heap.size w0 w' ∧ Kept w w' (fun k_ => VS k_):=by
 have yI:=D5.mk (show Kd.R (Kd.int .u8) 5 w w0.heap.size (fun k_ => (VS k_ ∨ w.heap.size ≤ k_)) Oj l0 from Kd.Az ho0 (fun k_ hk => (.inl hk)))
 have HK:=D5.mk (Kept.refl w (fun k_ => VS k_))
 have HW0:=D5.mk hB.size
 have HB:=D5.mk hB
 clear hB
 have H:(Ar.l0 k l0 a1 (wrap64 (a2 - 1))) = some r:=h
 clear h
 have H':=D5.mk H
 clear H
 go_enter Try.func64,Try.ntmps64
 go_wp2
 go_loopg [0,7] k (fun kq v0 v7 w' => ∃ (KQ:List Int) (JS:Int),v7 = .int .i64 JS ∧ D5 (Ar.l0 kq KQ a1 JS = some r) ∧ D5 (kq ≤ k) ∧ D5 (Kd.R (Kd.int .u8) 5 w' w0.heap.size (fun k_ => (VS k_ ∨ w.heap.size ≤ k_)) v0 KQ) ∧ D5 (Kept w w' (fun k_ => VS k_)) ∧ D5 (Below w0.heap.size w0 w'))
 case atStart => exact ⟨(l0),(wrap64 (a2 - 1)),(by first | rfl | (simp; done) | (simp [*]; done)),H',⟨Nat.le_refl _⟩,⟨by (with_reducible repeat (first | apply Kd.Lm | apply Kd.Lp | apply Kd.Ol)); exact yI.out⟩,⟨by repeat (first | (with_reducible first | exact HK.out | apply Kept.alloc | apply Kept.drewN | apply Kept.drew) | exact HK.out)⟩,⟨by repeat (first | (with_reducible first | exact HB.out | apply Dp | apply BH | apply FU) | exact HB.out)⟩⟩
 case round =>
  clear H'
  try clear p2
  obtain ⟨KQ,JS,rfl,HA,Lr,Vy,HK,HB⟩:=hrel
  cases gk with
  | zero => exact absurd HA.out (by simp [Ar.l0])
  | succ k1 =>
   have H:=HA.out
   clear HA
   simp only [Ar.l0] at H
   by_cases c4:JS ≥ 0
   ·rw [if_pos c4] at H
    have jl:decide (0 ≤ JS) = true:=decide_eq_true c4
    clear c4
    obtain ⟨Vz,X0⟩:∃ j_:Int,(wrap64 (8 * JS)) = j_:=⟨_,rfl⟩
    replace H:(if 0 ≤ (Vz) then (if KQ.length < 140737488355328 then (Ar.l0 k1 (KQ ++ [(shr .u64 a1 (Vz)) % 256]) a1 (wrap64 (JS - 1))) else (none)) else (none)) = some r:=by first | (rw [X0] at H; exact H) | (simp only [X0] at H ⊢; exact H)
    have oW:(IntKind.i64.wrap (8 * JS)) = Vz:=(ZY _).trans X0
    by_cases c6:0 ≤ (Vz)
    ·rw [if_pos c6] at H
     have yJ:=eq_true c6
     have yK:decide (0 ≤ (Vz)) = true:=decide_eq_true c6
     clear c6
     obtain ⟨ZG,V3⟩:∃ j_:Int,(shr .u64 a1 (Vz)) = j_:=⟨_,rfl⟩
     replace H:(if KQ.length < 140737488355328 then (Ar.l0 k1 (KQ ++ [(ZG) % 256]) a1 (wrap64 (JS - 1))) else (none)) = some r:=by first | (rw [V3] at H; exact H) | (simp only [V3] at H ⊢; exact H)
     have oZ:(a1 / 2 ^ min (Vz).toNat 64) = ZG:=V3
     have og:(Vz) ≤ 64 → (a1 / 2 ^ (Vz).toNat) = ZG:=Q4 V3
     by_cases c8:KQ.length < 140737488355328
     ·rw [if_pos c8] at H
      have jm:=D5.mk c8
      clear c8
      obtain ⟨y101,hy101⟩:∃ y_:List Int,y_ = (KQ ++ [(ZG) % 256]):=⟨_,rfl⟩
      replace H:(Ar.l0 k1 y101 a1 (wrap64 (JS - 1))) = some r:=by first | (rw [hy101]; with_reducible exact H) | (have jo:=(Option.bind_some _ _).symm.trans H; rw [hy101]; with_reducible exact jo) | (have jo:=(Option.bind_some _ _).symm.trans H; with_reducible exact jo) | with_reducible exact H | (rw [hy101]; exact H) | exact H
      have Zh:=D5.mk hy101
      clear hy101
      have H':=D5.mk H
      clear H
      go_wp2_with (first | ((with_reducible refine Lh (b:=.append) (xs:=#[.tmp 14,.tmp 20]) rfl ?_); at_builtin; refine Kd.Fq (Kd.int .u8) (w0:=w0) w0.heap.size rfl (.tmp 14) (.tmp 20) 22 5 (.int .u8 0) 1 rfl Try.underlying22 info5 rfl (by decide) (by omega) u0 KQ ((ZG) % 256) [.int .u8 ((ZG) % 256)] (fun k_ => (VS k_ ∨ w.heap.size ≤ k_)) (fun _ => False) rfl rfl ?aP (fun _ hk => hk.elim) ?aF ?aO ?aB ?aS ?aL ?_; (case aP => exact rfl); (case aB => exact (by repeat (first | (with_reducible first | exact HB.out | apply Dp | apply BH | apply FU) | exact HB.out))); (case aF => exact (fun k_ hk => (.inr (Nat.le_trans (by first | exact HK.out.1 | exact (show Kept w _ (fun k_ => VS k_) from by repeat (first | (with_reducible first | exact HK.out | apply Kept.alloc | apply Kept.drewN | apply Kept.drew) | exact HK.out)).1) hk)))); (case aO => exact (by (with_reducible repeat (first | apply Kd.Lm | apply Kd.Lp | apply Kd.Ol)); exact Vy.out)); (case aS => exact (OV (by repeat (first | (with_reducible first | exact HB.out | apply Dp | apply BH | apply FU) | exact HB.out)))); (case aL => have:=jm.out; omega); intro yL w9 ho hb hg hat; rw [← Zh.out] at ho; have oh:=D5.mk (hb); have ou:=D5.mk (Kept.Fz (S:=(fun k_ => VS k_)) hg (by repeat (first | (with_reducible first | exact HK.out | apply Kept.alloc | apply Kept.drewN | apply Kept.drew) | exact HK.out)) (fun k_ e_ => (Vy.out.1 k_ e_))); have oz:=D5.mk (ho); clear HB; clear HK; clear Vy; have HB:=oh; have HK:=ou; have Zi:=oz; clear oh ou oz; clear ho hb hg hat))
      go_roundg k1
      case measure => have:=Lr.out; omega
      case rel => exact ⟨(y101),(wrap64 (JS - 1)),(by first | rfl | (simp; done) | (simp [*]; done)),H',⟨by have:=Lr.out; omega⟩,⟨by (with_reducible repeat (first | apply Kd.Lm | apply Kd.Lp | apply Kd.Ol)); exact Zi.out⟩,⟨by repeat (first | (with_reducible first | exact HK.out | apply Kept.alloc | apply Kept.drewN | apply Kept.drew) | exact HK.out)⟩,⟨by repeat (first | (with_reducible first | exact HB.out | apply Dp | apply BH | apply FU) | exact HB.out)⟩⟩
     ·rw [if_neg c8] at H
      exact absurd H (by simp)
    ·rw [if_neg c6] at H
     exact absurd H (by simp)
   ·rw [if_neg c4] at H
    have jl:decide (0 ≤ JS) = false:=decide_eq_false c4
    clear c4
    obtain rfl:=Option.some.inj H
    go_wp2
    go_ret
    exact ⟨_,by first | rfl | (simp [Q8,Q9] <;> rfl) | (simp [*,Q8,Q9] <;> rfl),by (with_reducible repeat (first | apply Kd.Lm | apply Kd.Lp | apply Kd.Ol)); exact Vy.out,by repeat (first | (with_reducible first | exact HB.out | apply Dp | apply BH | apply FU) | exact HB.out),by repeat (first | (with_reducible first | exact HK.out | apply Kept.alloc | apply Kept.drewN | apply Kept.drew) | exact HK.out)⟩
end Go.Proofs.Ytnkkgofpifhoeaa.Ik
end
section
namespace Go.Proofs.Ytnkkgofpifhoeaa.Pk
open Go.RowKit Go.Proofs.Ytnkkgofpifhoeaa.Base Go.Proofs.YtnkkgofpifhoeaaW.PrintWords Go.Proofs.YtnkkgofpifhoeaaW.PrintLast Go.Proofs.Ytnkkgofpifhoeaa.Ik
def CO (n:Int):List Int:=[(shr .u64 n 24) % 256,(shr .u64 n 16) % 256,(shr .u64 n 8) % 256,(shr .u64 n 0) % 256]
def Di (n:Int):List Int:=[(shr .u64 n 56) % 256,(shr .u64 n 48) % 256,(shr .u64 n 40) % 256,(shr .u64 n 32) % 256,(shr .u64 n 24) % 256,(shr .u64 n 16) % 256,(shr .u64 n 8) % 256,(shr .u64 n 0) % 256]
theorem Cb (k:Nat) (l:List Int) (n i:Int) (h0:0 ≤ i) (h1:i ≤ 7) (hl:l.length ≤ 100000):Ar.l0 (k + 1) l n i = Ar.l0 k (l ++ [(shr .u64 n (8 * i)) % 256]) n (i - 1):=by
 have e1:wrap64 (8 * i) = 8 * i:=by unfold wrap64; omega
 have e2:wrap64 (i - 1) = i - 1:=by unfold wrap64; omega
 rw [Ar.l0,e1,e2,if_pos h0,if_pos (by omega),if_pos (by omega)]
theorem NH (k:Nat) (l:List Int) (n:Int):Ar.l0 (k + 1) l n (-1) = some l:=by
 rw [Ar.l0,if_neg (by decide)]
theorem Zj (l:List Int) (n:Int) (hl:l.length ≤ 50000):Ar.f 9 l n 4 = some (l ++ CO n):=by
 have e:wrap64 (4 - 1) = 3:=by unfold wrap64; omega
 have h:∀ m:List Int,m.length ≤ 8 → (l ++ m).length ≤ 100000:=fun m hm => by rw [List.length_append]; omega
 unfold Ar.f
 rw [e,Cb 8 l n 3 (by decide) (by decide) (by omega)]
 show Ar.l0 8 (l ++ [(shr .u64 n 24) % 256]) n 2 = _
 rw [Cb 7 _ n 2 (by decide) (by decide) (h _ (by simp)),List.append_assoc]
 show Ar.l0 7 (l ++ [(shr .u64 n 24) % 256,(shr .u64 n 16) % 256]) n 1 = _
 rw [Cb 6 _ n 1 (by decide) (by decide) (h _ (by simp)),List.append_assoc]
 show Ar.l0 6 (l ++ [(shr .u64 n 24) % 256,(shr .u64 n 16) % 256,(shr .u64 n 8) % 256]) n 0 = _
 rw [Cb 5 _ n 0 (by decide) (by decide) (h _ (by simp)),List.append_assoc]
 exact NH 4 _ n
theorem Zk (l:List Int) (n:Int) (hl:l.length ≤ 50000):Ar.f 9 l n 8 = some (l ++ Di n):=by
 have e:wrap64 (8 - 1) = 7:=by unfold wrap64; omega
 have h:∀ m:List Int,m.length ≤ 8 → (l ++ m).length ≤ 100000:=fun m hm => by rw [List.length_append]; omega
 unfold Ar.f
 rw [e,Cb 8 l n 7 (by decide) (by decide) (by omega)]
 show Ar.l0 8 (l ++ [(shr .u64 n 56) % 256]) n 6 = _
 rw [Cb 7 _ n 6 (by decide) (by decide) (h _ (by simp)),List.append_assoc]
 show Ar.l0 7 (l ++ [(shr .u64 n 56) % 256,(shr .u64 n 48) % 256]) n 5 = _
 rw [Cb 6 _ n 5 (by decide) (by decide) (h _ (by simp)),List.append_assoc]
 show Ar.l0 6 (l ++ [(shr .u64 n 56) % 256,(shr .u64 n 48) % 256,(shr .u64 n 40) % 256]) n 4 = _
 rw [Cb 5 _ n 4 (by decide) (by decide) (h _ (by simp)),List.append_assoc]
 show Ar.l0 5 (l ++ [(shr .u64 n 56) % 256,(shr .u64 n 48) % 256,(shr .u64 n 40) % 256,(shr .u64 n 32) % 256]) n 3 = _
 rw [Cb 4 _ n 3 (by decide) (by decide) (h _ (by simp)),List.append_assoc]
 show Ar.l0 4 (l ++ [(shr .u64 n 56) % 256,(shr .u64 n 48) % 256,(shr .u64 n 40) % 256,(shr .u64 n 32) % 256,(shr .u64 n 24) % 256]) n 2 = _
 rw [Cb 3 _ n 2 (by decide) (by decide) (h _ (by simp)),List.append_assoc]
 show Ar.l0 3 (l ++ [(shr .u64 n 56) % 256,(shr .u64 n 48) % 256,(shr .u64 n 40) % 256,(shr .u64 n 32) % 256,(shr .u64 n 24) % 256,(shr .u64 n 16) % 256]) n 1 = _
 rw [Cb 2 _ n 1 (by decide) (by decide) (h _ (by simp)),List.append_assoc]
 show Ar.l0 2 (l ++ [(shr .u64 n 56) % 256,(shr .u64 n 48) % 256,(shr .u64 n 40) % 256,(shr .u64 n 32) % 256,(shr .u64 n 24) % 256,(shr .u64 n 16) % 256,(shr .u64 n 8) % 256]) n 0 = _
 rw [Cb 1 _ n 0 (by decide) (by decide) (h _ (by simp)),List.append_assoc]
 exact NH 0 _ n
def Ls (w0 w:World) (l:List Int) (e:Ending) (w':World):Prop :=
 ∃ v,e = .returned v ∧ (Kd.int .u8).R 5 w' w0.heap.size (fun _ => True) v l ∧ Below w0.heap.size w0 w' ∧ ∀ (g:Nat) (cs:Array Value) (t:TypeId),t ≠ 5 → w.heap[g]? = some (Obj.cells cs t (0,0)) → w'.heap[g]? = some (Obj.cells cs t (0,0))
theorem Ti (size:Int) (w0 w:World) (v:Value) (l r:List Int) (n:Int) (hB:Below w0.heap.size w0 w) (hR:(Kd.int .u8).R 5 w w0.heap.size (fun _ => True) v l) (hf:Ar.f 9 l n size = some r) :
  Calls Try.prog 64 #[v,.int .u64 n,.int .i64 size] w (Ls w0 w r):=by
 have hb:=Kd.Az (ok':=fun k => ∃ cs,w.heap[k]? = some (.cells cs 5 (0,0))) (Kd.CW hR) (fun k hk => by
  obtain ⟨_,_,_,q,hq,cs,hc⟩:=hk
  have:q = 5:=by
   have hE:(5 :: (Kd.int .u8).E) = [5]:=rfl
   rw [hE] at hq
   exact List.mem_singleton.1 hq
  subst this
  exact ⟨cs,hc⟩)
 refine (Ar.calls 9 _ v l n size r w0 w hB hb hf).mono ?_
 rintro e w' ⟨v',rfl,hR',hB',hK⟩
 refine ⟨v',rfl,Kd.Az hR' (fun _ _ => trivial),hB',fun g cs t ht hg => ?_⟩
 refine Ai hg hK ?_
 rintro ⟨cs',hc'⟩
 rw [hg] at hc'
 injection hc' with hc'
 injection hc' with _ h2
 exact ht h2
theorem Bo (w0 w:World) (v:Value) (l:List Int) (n:Int) (hB:Below w0.heap.size w0 w) (hR:(Kd.int .u8).R 5 w w0.heap.size (fun _ => True) v l) (hl:l.length ≤ 50000) :
  Calls Try.prog 64 #[v,.int .u64 n,.int .i64 4] w (Ls w0 w (l ++ CO n)):=Ti 4 w0 w v l _ n hB hR (Zj l n hl)
theorem NI (w0 w:World) (v:Value) (l:List Int) (n:Int) (hB:Below w0.heap.size w0 w) (hR:(Kd.int .u8).R 5 w w0.heap.size (fun _ => True) v l) (hl:l.length ≤ 50000) :
  Calls Try.prog 64 #[v,.int .u64 n,.int .i64 8] w (Ls w0 w (l ++ Di n)):=Ti 8 w0 w v l _ n hB hR (Zk l n hl)
theorem QI (W:World) (base:Nat) (xs:List Int) (hb:base ≤ W.heap.size) (hl:xs.length ≤ 1000000) :
  (Kd.int .u8).R 5 (W.alloc (.cells (xs.map (Value.int .u8)).toArray 5)) base (fun _ => True) (.slice (some ⟨W.heap.size,0,none⟩) xs.length xs.length) xs:=by
 have h2:=World.ownsRow_lit (base:=base) (e:=5) (size:=1) W (xs.map (Value.int .u8)).toArray xs.length hb (by unfold maxLen; omega) (by simp)
 exact Kd.MX (enc:=Value.int .u8) (h1:=fun _ => rfl) (by simpa [encs] using h2) (fun _ _ => trivial)
end Go.Proofs.Ytnkkgofpifhoeaa.Pk
end
section
namespace Go.Proofs.Ytnkkgofpifhoeaa.Pk
open Go.RowKit Go.Proofs.Ytnkkgofpifhoeaa.Base Go.Proofs.YtnkkgofpifhoeaaW.PrintWords Go.Proofs.YtnkkgofpifhoeaaW.PrintLast
theorem Es (n:Int) (k:Nat) (hk:k ≤ 64):shr .u64 n (k:Int) = n / 2 ^ k:=by
 unfold shr
 rw [Int.toNat_natCast,Nat.min_eq_left (show k ≤ IntKind.u64.bits from hk)]
theorem QJ (n:Int):CO n = [n / 16777216 % 256,n / 65536 % 256,n / 256 % 256,n % 256]:=by
 unfold CO
 rw [show shr .u64 n 24 = n / 16777216 from Es n 24 (by decide),show shr .u64 n 16 = n / 65536 from Es n 16 (by decide),show shr .u64 n 8 = n / 256 from Es n 8 (by decide),show shr .u64 n 0 = n / 1 from Es n 0 (by decide),Int.ediv_one]
theorem QK (n:Int):Di n = [n / 72057594037927936 % 256,n / 281474976710656 % 256,n / 1099511627776 % 256,n / 4294967296 % 256,n / 16777216 % 256,n / 65536 % 256,n / 256 % 256,n % 256]:=by
 unfold Di
 rw [show shr .u64 n 56 = n / 72057594037927936 from Es n 56 (by decide),show shr .u64 n 48 = n / 281474976710656 from Es n 48 (by decide),show shr .u64 n 40 = n / 1099511627776 from Es n 40 (by decide),show shr .u64 n 32 = n / 4294967296 from Es n 32 (by decide),show shr .u64 n 24 = n / 16777216 from Es n 24 (by decide),show shr .u64 n 16 = n / 65536 from Es n 16 (by decide),show shr .u64 n 8 = n / 256 from Es n 8 (by decide),show shr .u64 n 0 = n / 1 from Es n 0 (by decide),Int.ediv_one]
end Go.Proofs.Ytnkkgofpifhoeaa.Pk
end
section
namespace Go.Proofs.Ytnkkgofpifhoeaa.o5
open Go.RowKit Go.Proofs.Ytnkkgofpifhoeaa.Base Go.Proofs.Ytnkkgofpifhoeaa.Pk Go.Proofs.YtnkkgofpifhoeaaW.PrintWords Go.Proofs.YtnkkgofpifhoeaaW.PrintLast Go.Proofs.Ytnkkgofpifhoeaa.Steps
theorem X3 (w:World):(Instr.index 108 table (.int .i64 1)).run Try.prog w = .ok (.agg #[.bool true,.bool false,.bool false,.bool false,.int .i64 14,.int .i64 14]) w:=by kernel_rfl
def ER (w:World) (L:List Int) (e:Ending) (w':World):Prop:=∃ v,e = .returned (.tuple #[v,.int .i64 0]) ∧ (Kd.int .u8).R 5 w' w.heap.size (fun _ => True) v L ∧ Below w.heap.size w w'
theorem Tj (mine AL yours seq AX stamp echo:Int) (zr zi:Nat) (A:Option Addr) (c:Nat) (body:List Int) (w:World) (hC:Kd.C (Kd.int .u8) w A body.length body) (hbl:body.length ≤ 20000)
  (hck:Ah 1 mine AL yours seq AX stamp echo zr zi body.length = 0) (hp:zr < 18446744073709551616) (hq:zi < 18446744073709551616) :
  Calls Try.prog 19 #[.agg #[.int .i64 1,.int .u32 mine,.int .u32 AL,.int .u32 yours,.int .u32 seq,.int .u32 AX,.int .u32 stamp,.int .u32 echo,.complex .f64 zr zi,.slice A body.length c]] w (ER w (((([1] ++ CO (IntKind.u64.wrap mine)) ++ CO (IntKind.u64.wrap AL)) ++ CO (IntKind.u64.wrap yours)) ++ [IntKind.u8.wrap seq])):=by
 have DZ:=Try.underlying27
 have FH:=Try.underlying107
 have hix:=X3
 have FK:=Lib.hid hck
 have HC:=Lib.hid hC
 have HL:=Lib.hid hbl
 have Bd:=Lib.hid hp
 have X4:=Lib.hid hq
 clear hck hC hbl hp hq
 go_enter Try.func19,Try.ntmps19
 go_wp2_with (go_at_call 20; refine (check_any _ _ _ _ _ _ _ _ _ _ _ _ _ _ Bd.out X4.out).mono ?_; rintro e w1 ⟨rfl,hb⟩; rw [FK.out]; have HX:=Lib.hid ((hb.block w.heap.size (by simp)).trans (heap_alloc_new w (.cells #[.int .i64 1,.int .u32 mine,.int .u32 AL,.int .u32 yours,.int .u32 seq,.int .u32 AX,.int .u32 stamp,.int .u32 echo,.complex .f64 zr zi,.slice A body.length c] 27))); have HW:=Lib.hid (((Below.refl w.heap.size w).alloc (Nat.le_refl _) (.cells #[.int .i64 1,.int .u32 mine,.int .u32 AL,.int .u32 yours,.int .u32 seq,.int .u32 AX,.int .u32 stamp,.int .u32 echo,.complex .f64 zr zi,.slice A body.length c] 27)).trans (hb.mono (by simp))); clear hb)
 have DJ:w1.drew.heap[w.heap.size]? = some (.cells #[.int .i64 1,.int .u32 mine,.int .u32 AL,.int .u32 yours,.int .u32 seq,.int .u32 AX,.int .u32 stamp,.int .u32 echo,.complex .f64 zr zi,.slice A body.length c] 27 (0,0)):=HX.out
 have Aq:Below w.heap.size w w1.drew:=Aj HW.out
 clear HX HW
 have HW:=Lib.hid Aq
 clear Aq
 refine Aw (n:=6) (S:=fun w' => w'.heap[w.heap.size]? = some (.cells #[.int .i64 1,.int .u32 mine,.int .u32 AL,.int .u32 yours,.int .u32 seq,.int .u32 AX,.int .u32 stamp,.int .u32 echo,.complex .f64 zr zi,.slice A body.length c] 27 (0,0))) (ds:=[]) gY (by kernel_rfl) rfl rfl (DJ) (fun hHeld => ?_)
 generalize w1.drew = w2 at HW hHeld ⊢
 refine pu 1 13 gZ ?_
 refine tk 2 14 gm hHeld ?_ (hf:=by intro w' s0; have hc0:w'.cell? ⟨w.heap.size,0,none⟩ = some (.int .i64 1):=(AA s0 0).trans rfl; clear s0; go_simp; with_reducible rfl)
 refine D7 (σ:=Nat) 1 ZB (fun g => [(12,table),(15,.agg #[.bool true,.bool false,.bool false,.bool false,.int .i64 14,.int .i64 14]),(5,.pointer (some ⟨g,0,none⟩))]) (fun g w' => w'.heap[g]? = some (.cells #[.bool false,.bool false,.bool false,.bool false,.int .i64 0,.int .i64 0] 107 (0,0)) ∧ Below w.heap.size w w' ∧ w.heap.size < g ∧ w'.heap[w.heap.size]? = some (.cells #[.int .i64 1,.int .u32 mine,.int .u32 AL,.int .u32 yours,.int .u32 seq,.int .u32 AX,.int .u32 stamp,.int .u32 echo,.complex .f64 zr zi,.slice A body.length c] 27 (0,0))) ?_ ?_
 rotate_left
 ·intro hcont
  exact Z2
 intro g w3 ⟨hbx,hbel,hgt,hHeld⟩
 clear HW
 refine Dy (a':=?_) ?_ ?_
 rotate_left
 ·show Ak _ _ = _
  simp only [Ak,Act.put,sA,sZ,sS]
  rfl
 have hd0:w3.cell? ⟨g,0,none⟩ = some (.bool false):=(AA hbx 0).trans rfl
 have hf0:=AB hbx 0
 have hd1:w3.cell? ⟨g,1,none⟩ = some (.bool false):=(AA hbx 1).trans rfl
 have hf1:=AB hbx 1
 have hd2:w3.cell? ⟨g,2,none⟩ = some (.bool false):=(AA hbx 2).trans rfl
 have hf2:=AB hbx 2
 have hd3:w3.cell? ⟨g,3,none⟩ = some (.bool false):=(AA hbx 3).trans rfl
 have hf3:=AB hbx 3
 have hd4:w3.cell? ⟨g,4,none⟩ = some (.int .i64 0):=(AA hbx 4).trans rfl
 have hf4:=AB hbx 4
 have hd5:w3.cell? ⟨g,5,none⟩ = some (.int .i64 0):=(AA hbx 5).trans rfl
 have hf5:=AB hbx 5
 refine on 5 none gu fun K hK => ?_
 refine BO (fun wz => wz.heap[g]? = some (.cells #[.bool true,.bool false,.bool false,.bool false,.int .i64 14,.int .i64 14] 107 (0,0)) ∧ At g w3 wz) (by rfl) rfl ⟨_,by first | (go_simp; done) | (go_simp; rfl),?_,?_⟩ (fun w4 hF => ?_)
 ·skip
  exact iC
 ·repeat (first | (with_reducible exact At.refl _ _) | refine At.set ?_ _ _)
 obtain ⟨hB4,hat⟩:=hF
 have Om:=(hat.block w.heap.size (by omega)).trans hHeld
 have HW:=Lib.hid (hat.below hbel (by omega))
 have HB:=Lib.hid hB4
 clear hbx hbel hat hHeld hB4 hd0 hf0 hd1 hf1 hd2 hf2 hd3 hf3 hd4 hf4 hd5 hf5
 refine hK.out _ _ Om (fun hHeld => ?_)
 clear hK K Om
 refine BN (by kernel_rfl) ?_
 have HX:=Lib.hid hHeld
 clear hHeld
 go_wp2_with fail
 have DJ:w4.drew.heap[w.heap.size]? = some (.cells #[.int .i64 1,.int .u32 mine,.int .u32 AL,.int .u32 yours,.int .u32 seq,.int .u32 AX,.int .u32 stamp,.int .u32 echo,.complex .f64 zr zi,.slice A body.length c] 27 (0,0)):=HX.out
 have Bj:w4.drew.heap[g]? = some (.cells #[.bool true,.bool false,.bool false,.bool false,.int .i64 14,.int .i64 14] 107 (0,0)):=HB.out
 have Aq:Below w.heap.size w w4.drew:=Aj HW.out
 clear HX HB HW
 have HB:=Lib.hid Bj
 have HW:=Lib.hid Aq
 clear Bj Aq
 refine Aw (n:=17) (S:=fun w' => w'.heap[w.heap.size]? = some (.cells #[.int .i64 1,.int .u32 mine,.int .u32 AL,.int .u32 yours,.int .u32 seq,.int .u32 AX,.int .u32 stamp,.int .u32 echo,.complex .f64 zr zi,.slice A body.length c] 27 (0,0))) (ds:=[]) di (by kernel_rfl) rfl rfl (DJ) (fun hHeld => ?_)
 generalize w4.drew = w5 at HB HW hHeld ⊢
 refine pu 0 16 dm ?_
 refine tk 1 17 dw hHeld ?_ (hf:=by intro w' s0; have hc0:w'.cell? ⟨w.heap.size,0,none⟩ = some (.int .i64 1):=(AA s0 0).trans rfl; clear s0; go_simp; with_reducible rfl)
 refine pu 2 18 eF ?_
 refine pu 4 20 eG ?_
 refine tk 5 21 eH hHeld ?_ (hf:=by intro w' s0; have hc1:w'.cell? ⟨w.heap.size,1,none⟩ = some (.int .u32 mine):=(AA s0 1).trans rfl; clear s0; go_simp; with_reducible rfl)
 refine pu 6 22 eP ?_
 refine pu 8 24 eX ?_
 refine tk 9 25 eu hHeld ?_ (hf:=by intro w' s0; have hc2:w'.cell? ⟨w.heap.size,2,none⟩ = some (.int .u32 AL):=(AA s0 2).trans rfl; clear s0; go_simp; with_reducible rfl)
 refine pu 10 26 fB ?_
 refine pu 12 28 fD ?_
 refine tk 13 29 fF hHeld ?_ (hf:=by intro w' s0; have hc3:w'.cell? ⟨w.heap.size,3,none⟩ = some (.int .u32 yours):=(AA s0 3).trans rfl; clear s0; go_simp; with_reducible rfl)
 refine pu 14 30 fH ?_
 refine on 3 (some 19) fK fun K hK => ?_
 refine Gt (v:=.slice (some ⟨w5.heap.size,0,none⟩) 1 1) (by rfl) rfl (w1:=w5.alloc (.cells #[.int .u8 1] 5)) ?_ ?_
 ·first | (go_simp; done) | (go_simp; rfl)
 have EJ:=(Below.refl w5.heap.size w5).alloc (Nat.le_refl _) (.cells #[.int .u8 1] 5)
 have CZ:=QI w5 w.heap.size [1] HW.out.size (by decide)
 have Lt:(Kd.int .u8).R 5 (w5.alloc (.cells #[.int .u8 1] 5)) w.heap.size (fun _ => True) (.slice (some ⟨w5.heap.size,0,none⟩) 1 1) [1]:=CZ
 have CG:=(EJ.block w.heap.size (AU hHeld)).trans hHeld
 have DU:=(EJ.block g (AU HB.out)).trans HB.out
 have Aq:=HW.out.trans (EJ.mono HW.out.size)
 generalize hv0:Value.slice (some ⟨w5.heap.size,0,none⟩) 1 1 = v0 at Lt ⊢
 clear hv0 EJ CZ
 generalize w5.alloc (.cells #[.int .u8 1] 5) = w6 at Lt CG DU Aq ⊢
 clear HW HB
 have HR:=Lib.hid Lt
 have HW:=Lib.hid Aq
 have HB:=Lib.hid DU
 clear Lt Aq DU
 refine hK.out _ _ CG (fun hHeld => ?_)
 clear hK K CG
 refine nm 19 ?_
 refine on 7 (some 23) fO fun K hK => ?_
 refine BK Try.func64 (by kernel_rfl) rfl #[v0,.int .u64 (IntKind.u64.wrap mine),.int .i64 4] (by rfl) rfl rfl (by (try simp only [List.map_toArray,List.map_cons,List.map_nil]); first | done | rfl) ?_
 refine (Bo w _ _ _ _ HW.out HR.out (by have:=HL.out; simp [CO,Di]; try omega)).mono ?_
 rintro e w7 ⟨v7,rfl,CZ,hBl,hkeep⟩
 have CG:=hkeep w.heap.size _ 27 (by decide) hHeld
 have DU:=hkeep g _ 107 (by decide) HB.out
 clear HR HB HW hkeep
 have HR:=Lib.hid CZ
 have HB:=Lib.hid DU
 have HW:=Lib.hid hBl
 clear CZ DU hBl
 refine ⟨_,rfl,?_⟩
 refine hK.out _ _ CG (fun hHeld => ?_)
 clear hK K CG
 refine nm 23 ?_
 refine on 11 (some 27) M10 fun K hK => ?_
 refine BK Try.func64 (by kernel_rfl) rfl #[v7,.int .u64 (IntKind.u64.wrap AL),.int .i64 4] (by rfl) rfl rfl (by (try simp only [List.map_toArray,List.map_cons,List.map_nil]); first | done | rfl) ?_
 refine (Bo w _ _ _ _ HW.out HR.out (by have:=HL.out; simp [CO,Di]; try omega)).mono ?_
 rintro e w8 ⟨v8,rfl,CZ,hBl,hkeep⟩
 have CG:=hkeep w.heap.size _ 27 (by decide) hHeld
 have DU:=hkeep g _ 107 (by decide) HB.out
 clear HR HB HW hkeep
 have HR:=Lib.hid CZ
 have HB:=Lib.hid DU
 have HW:=Lib.hid hBl
 clear CZ DU hBl
 refine ⟨_,rfl,?_⟩
 refine hK.out _ _ CG (fun hHeld => ?_)
 clear hK K CG
 refine nm 27 ?_
 refine on 15 (some 31) M13 fun K hK => ?_
 refine BK Try.func64 (by kernel_rfl) rfl #[v8,.int .u64 (IntKind.u64.wrap yours),.int .i64 4] (by rfl) rfl rfl (by (try simp only [List.map_toArray,List.map_cons,List.map_nil]); first | done | rfl) ?_
 refine (Bo w _ _ _ _ HW.out HR.out (by have:=HL.out; simp [CO,Di]; try omega)).mono ?_
 rintro e w9 ⟨v9,rfl,CZ,hBl,hkeep⟩
 have CG:=hkeep w.heap.size _ 27 (by decide) hHeld
 have DU:=hkeep g _ 107 (by decide) HB.out
 clear HR HB HW hkeep
 have HR:=Lib.hid CZ
 have HB:=Lib.hid DU
 have HW:=Lib.hid hBl
 clear CZ DU hBl
 refine ⟨_,rfl,?_⟩
 refine hK.out _ _ CG (fun hHeld => ?_)
 clear hK K CG
 refine nm 31 ?_
 refine pu 16 6 fP ?_
 refine BN (by kernel_rfl) ?_
 have HX:=Lib.hid hHeld
 clear hHeld
 have hc0:w9.cell? ⟨w.heap.size,0,none⟩ = some (.int .i64 1):=(AA HX.out 0).trans rfl
 have hc1:w9.cell? ⟨w.heap.size,1,none⟩ = some (.int .u32 mine):=(AA HX.out 1).trans rfl
 have hc2:w9.cell? ⟨w.heap.size,2,none⟩ = some (.int .u32 AL):=(AA HX.out 2).trans rfl
 have hc3:w9.cell? ⟨w.heap.size,3,none⟩ = some (.int .u32 yours):=(AA HX.out 3).trans rfl
 have hc4:w9.cell? ⟨w.heap.size,4,none⟩ = some (.int .u32 seq):=(AA HX.out 4).trans rfl
 have hc5:w9.cell? ⟨w.heap.size,5,none⟩ = some (.int .u32 AX):=(AA HX.out 5).trans rfl
 have hc6:w9.cell? ⟨w.heap.size,6,none⟩ = some (.int .u32 stamp):=(AA HX.out 6).trans rfl
 have Ih:w9.cell? ⟨w.heap.size,7,none⟩ = some (.int .u32 echo):=(AA HX.out 7).trans rfl
 have hc8:w9.cell? ⟨w.heap.size,8,none⟩ = some (.complex .f64 zr zi):=(AA HX.out 8).trans rfl
 have Hu:w9.cell? ⟨w.heap.size,9,none⟩ = some (.slice A body.length c):=(AA HX.out 9).trans rfl
 have hr0:w9.cell? ⟨g,0,none⟩ = some (.bool true):=(AA HB.out 0).trans rfl
 have hr1:w9.cell? ⟨g,1,none⟩ = some (.bool false):=(AA HB.out 1).trans rfl
 have hr2:w9.cell? ⟨g,2,none⟩ = some (.bool false):=(AA HB.out 2).trans rfl
 have hr3:w9.cell? ⟨g,3,none⟩ = some (.bool false):=(AA HB.out 3).trans rfl
 go_wp2_with (first | ((with_reducible refine AV (N:=39) rfl ?_); (refine Kd.Za (Kd.int .u8) (w0:=w9) w9.heap.size 5 ?hg (N:=39) ?hd (xs:=([IntKind.u8.wrap seq]:List Int)) (inner:=[.int .u8 (IntKind.u8.wrap seq)]) (ok:=fun _ => True) (DI:=fun _ => True) ?hr ?hp (fun _ hk => hk) trivial (Below.refl _ _) (Nat.le_refl _) (by simp) ?_); ((case hd => rfl)); ((case hg => rfl)); ((case hr => first | (go_simp; done) | (go_simp; rfl))); ((case hp => exact (EH.one (show Kd.M (Kd.int .u8) _ _ _ (IntKind.u8.wrap seq) [.int .u8 (IntKind.u8.wrap seq)] from rfl) (EH.none _ _)))); (intro vl w10 hR0 hb _ _); (obtain ⟨A1,c1,hv1,_,o6⟩:=Kd.Ic hR0); (subst hv1); (have X5:=Lib.hid o6); (have CE:=Kd.Eb HR.out hb); (have Aq:=HW.out.trans (hb.mono HW.out.size)); (clear HR HW hR0 o6 hb); (have HR:=Lib.hid CE); (have HW:=Lib.hid Aq); (clear CE Aq)) | ((with_reducible refine AV (N:=40) rfl ?_); (refine Kd.EP (h1:=fun _ => rfl) (Value.int .u8) 0 (w0:=w) w.heap.size rfl (.tmp 35) (.tmp 39) 22 5 (.int .u8 0) 1 rfl Try.underlying22 info5 rfl (by decide) v9 _ ([IntKind.u8.wrap seq]) _ _ _ (fun _ => True) rfl rfl (fun _ _ => trivial) HR.out X5.out HW.out HW.out.size (by have:=HL.out; simp [CO,Di]; try omega) ?_); (intro v11 EX CZ hBl _ _); (clear HR HW); (have HR:=Lib.hid CZ); (have HW:=Lib.hid hBl); (clear CZ hBl)))
 go_ret2
 unfold ER
 exact ⟨_,rfl,HR.out,HW.out⟩
end Go.Proofs.Ytnkkgofpifhoeaa.o5
end
