/- What the laws of a pair are proved with: links and pairs in memory, what their methods do, what a pair keeps to (part 9). -/
import Derived.Test.YtnkkgofpifhoeaaPF05
import Derived.Test.YtnkkgofpifhoeaaPF06
import Derived.Test.YtnkkgofpifhoeaaPF07
import Derived.Test.YtnkkgofpifhoeaaPF08
import Derived.Laws.StructEq
import Derived.Test.YtnkkgofpifhoeaaProg
import Derived.Below
import Derived.Deep.Draws
import Derived.Deep.AppendLies
import Derived.Maps.AppendAt
import Derived.OwnWalk
import Derived.Laws.BytesArg
import Derived.Laws.MakeOwn
import Derived.Laws.OwnMore
import Derived.Deep.OwnRows
import Derived.Tactics
import Derived.Lib.ConvBytes
import Derived.Laws.Slices
import Derived.WalkKit
import Derived.KernelRfl
import Derived.RowKit3
import Derived.Deep.LoopGhost
import Derived.Deep.QuietTactic
import Derived.BigQuiet
import Derived.WideLaws
import Derived.Deep.DeepCutAuto
import Derived.Deep.CutBlock
import Derived.Deep.RegionHeld3
import Derived.Laws.Rows
import Derived.Lib.AppendStr
import Derived.ArgAppend
import Derived.Laws.IdiomCopy
import Derived.OrdersHeld
import Derived.Laws.BitsLemmas
import Derived.RowKit
set_option linter.unusedSimpArgs false
set_option linter.unusedVariables false
set_option maxRecDepth 100000
set_option maxHeartbeats 16000000
namespace Go.Proofs.Ytnkkgofpifhoeaa
theorem Z2 {p:Prop} (h:p:=by
 refine P6 (i:=0) (j:=4) (Ni:=some 12) (Nj:=some 5) nG nH rfl rfl rfl rfl (by kernel_rfl) (by decide) (by decide) (fun K hK => ?_) (fun K hK => ?_)
 ·skip
  refine BR Try.func59 (by kernel_rfl) rfl #[] (by rfl) rfl rfl (by (try simp only [List.map_toArray,List.map_cons,List.map_nil]); first | done | rfl) ?_
  refine (rows_any _).mono ?_
  rintro e w3 ⟨rfl,hb⟩
  refine ⟨_,rfl,?_⟩
  have Ed:=(hb.block w.heap.size (AU hHeld)).trans hHeld
  have Aq:=HW.out.trans (hb.mono HW.out.size)
  clear HW hb
  have HW:=Lib.hid Aq
  clear Aq
  refine hK.out _ _ Ed (fun hHeld => ?_)
  clear hK K Ed
  refine nm 12 ?_
  refine pu 3 15 nI ?_
  refine on 4 (some 5) XK fun K hK => ?_
  refine Dy (by rfl) (N:=5) rfl (cs:=#[.bool false,.bool false,.bool false,.bool false,.int .i64 0,.int .i64 0]) (t:=107) (by first | (go_simp; done) | (go_simp; rfl)) ?_
  intro g hg w4 hbx hb3
  have hgt:w.heap.size < g:=by have:=AU hHeld; omega
  have Ed:=(hb3.block w.heap.size (AU hHeld)).trans hHeld
  have Aq:=HW.out.trans (hb3.mono HW.out.size)
  clear HW hb3 hg
  have HW:=Lib.hid Aq
  clear Aq
  refine hK.out _ _ Ed (fun hHeld => ?_)
  clear hK K Ed
  refine nm 5 ?_
  have h9:=hcont g _ ⟨hbx,HW.out,hgt,hHeld⟩
  simp only [Ak,Act.put,sA,sZ,sS] at h9
  exact h9
 ·skip
  refine Dy (by rfl) (N:=5) rfl (cs:=#[.bool false,.bool false,.bool false,.bool false,.int .i64 0,.int .i64 0]) (t:=107) (by first | (go_simp; done) | (go_simp; rfl)) ?_
  intro g hg w4 hbx hb3
  have hgt:w.heap.size < g:=by have:=AU hHeld; omega
  have Ed:=(hb3.block w.heap.size (AU hHeld)).trans hHeld
  have Aq:=HW.out.trans (hb3.mono HW.out.size)
  clear HW hb3 hg
  have HW:=Lib.hid Aq
  clear Aq
  refine hK.out _ _ Ed (fun hHeld => ?_)
  clear hK K Ed
  refine nm 5 ?_
  refine on 0 (some 12) nJ fun K hK => ?_
  refine BR Try.func59 (by kernel_rfl) rfl #[] (by rfl) rfl rfl (by (try simp only [List.map_toArray,List.map_cons,List.map_nil]); first | done | rfl) ?_
  refine (rows_any _).mono ?_
  rintro e w3 ⟨rfl,hb⟩
  refine ⟨_,rfl,?_⟩
  have Ed:=(hb.block w.heap.size (AU hHeld)).trans hHeld
  have Aq:=HW.out.trans (hb.mono HW.out.size)
  have DK:=(hb.block g (AU hbx)).trans hbx
  clear HW hb
  have HW:=Lib.hid Aq
  clear Aq
  refine hK.out _ _ Ed (fun hHeld => ?_)
  clear hK K Ed
  refine nm 12 ?_
  refine pu 3 15 XK ?_
  have h9:=hcont g _ ⟨DK,HW.out,hgt,hHeld⟩
  simp only [Ak,Act.put,sA,sZ,sS] at h9
  exact h9):p:=h
end Go.Proofs.Ytnkkgofpifhoeaa
section
namespace Go.Proofs.Ytnkkgofpifhoeaa.Pk
open Go.RowKit Go.Proofs.Ytnkkgofpifhoeaa.Base Go.Proofs.YtnkkgofpifhoeaaW.PrintWords Go.Proofs.YtnkkgofpifhoeaaW.PrintLast Go.Proofs.Ytnkkgofpifhoeaa.Steps
theorem Lu (A:Option Addr) (c:Nat) (w:World) :
  Calls Try.prog 16 #[.slice A 0 c] w fun e w' => e = .returned (.tuple #[.agg #[.int .i64 0,.int .u32 0,.int .u32 0,.int .u32 0,.int .u32 0,.int .u32 0,.int .u32 0,.int .u32 0,.complex .f64 0 0,.slice none 0 0],.int .i64 103]) ∧ Below w.heap.size w w':=by
 have DV:=Try.underlying27
 have hbz:=F8
 have hal:=F9
 go_enter Try.func16,Try.ntmps16
 go_wp2_with (first | ((with_reducible refine gate_ (.store 27 (.tmp 2) (.tmp 12)) rfl ?_); refine Ae rfl rfl 27 (.tmp 2) (.tmp 12) rfl w.heap.size _ rfl rfl 27 #[.int .i64 0,.int .u32 0,.int .u32 0,.int .u32 0,.int .u32 0,.int .u32 0,.int .u32 0,.int .u32 0,.complex .f64 0 0,.slice none 0 0] (heap_alloc_new w _) (by kernel_rfl) rfl (by kernel_rfl) ?_; intro w5 hb5 Df; have JQ:=Lib.hid hb5; have FW:=Lib.hid Df; clear hb5 Df))
 refine bodyPost_ret (v:=.tuple #[.agg #[.int .i64 0,.int .u32 0,.int .u32 0,.int .u32 0,.int .u32 0,.int .u32 0,.int .u32 0,.int .u32 0,.complex .f64 0 0,.slice none 0 0],.int .i64 103]) ?_ rfl ⟨rfl,FW.out.below ((Below.refl _ _).alloc (Nat.le_refl _) _) (Nat.le_refl _)⟩
 have hl5:=run_loadVar_row (P:=Try.prog) w5 w.heap.size 27 27 _ (0,0) _ JQ.out Try.underlying27 rfl (by kernel_rfl)
 exact Ag Try.results16 _ _ rfl rfl hl5
theorem L6 (ad:Addr) (n c:Nat) (k:Int) (w:World) (hx0:w.cell? ad = some (.int .u8 k)) (h0:0 < n) (hk:k < 1 ∨ 4 < k) (hk0:0 ≤ k) (hk1:k < 256) :
  Calls Try.prog 16 #[.slice (some ad) n c] w fun e w' => e = .returned (.tuple #[.agg #[.int .i64 0,.int .u32 0,.int .u32 0,.int .u32 0,.int .u32 0,.int .u32 0,.int .u32 0,.int .u32 0,.complex .f64 0 0,.slice none 0 0],.int .i64 100]) ∧ Below w.heap.size w w':=by
 have DV:=Try.underlying27
 have hbz:=F8
 have hal:=F9
 have hne:((n:Int) == 0) = false:=beq_eq_false_iff_ne.2 (by omega)
 have hx1:=fun o => Au hx0 o
 rcases hk with hk | hk
 all_goals
  go_enter Try.func16,Try.ntmps16
  go_wp2_with (first | ((with_reducible refine gate_ (.store 27 (.tmp 2) (.tmp 23)) rfl ?_); refine Ae rfl rfl 27 (.tmp 2) (.tmp 23) rfl w.heap.size _ rfl rfl 27 #[.int .i64 0,.int .u32 0,.int .u32 0,.int .u32 0,.int .u32 0,.int .u32 0,.int .u32 0,.int .u32 0,.complex .f64 0 0,.slice none 0 0] (heap_alloc_new w _) (by kernel_rfl) rfl (by kernel_rfl) ?_; intro w5 hb5 Df; have JQ:=Lib.hid hb5; have FW:=Lib.hid Df; clear hb5 Df))
  refine bodyPost_ret (v:=.tuple #[.agg #[.int .i64 0,.int .u32 0,.int .u32 0,.int .u32 0,.int .u32 0,.int .u32 0,.int .u32 0,.int .u32 0,.complex .f64 0 0,.slice none 0 0],.int .i64 100]) ?_ rfl ⟨rfl,FW.out.below ((Below.refl _ _).alloc (Nat.le_refl _) _) (Nat.le_refl _)⟩
  have hl5:=run_loadVar_row (P:=Try.prog) w5 w.heap.size 27 27 _ (0,0) _ JQ.out Try.underlying27 rfl (by kernel_rfl)
  exact Ag Try.results16 _ _ rfl rfl hl5
theorem Np (A:Option Addr) (c:Nat) (l:List Int) (w:World) (hC:Kd.C (Kd.int .u8) w A l.length l) (hcap:l.length ≤ c) (hby:BV l) :
  Calls Try.prog 16 #[.slice A l.length c] w (Bc l w):=by
 by_cases h0:l.length = 0
 ·have hd:DT l = 103:=by rw [DT,if_pos h0]
  have hc:Calls Try.prog 16 #[.slice A l.length c] w fun e w' => e = .returned (.tuple #[.agg #[.int .i64 0,.int .u32 0,.int .u32 0,.int .u32 0,.int .u32 0,.int .u32 0,.int .u32 0,.int .u32 0,.complex .f64 0 0,.slice none 0 0],.int .i64 103]) ∧ Below w.heap.size w w':=by
   rw [h0]
   exact Lu A c w
  exact hc.mono fun e w' h => Bc.bad hd (by decide) h
 obtain ⟨ad,eA,hx⟩:=Kd.EC hC 0 (by omega) (by omega)
 subst eA
 have ha0:ad.add (0:Int).toNat = ad:=by simp [Addr.add]
 rw [ha0] at hx
 have hr:=hby.at 0 (by omega)
 have hr0:0 ≤ rd l 0:=hr.1
 have hr1:rd l 0 < 256:=hr.2
 by_cases hk:rd l 0 < 1 ∨ 4 < rd l 0
 ·have hd:DT l = 100:=by rw [DT,if_neg h0,if_pos hk]
  exact (L6 ad l.length c _ w hx (by omega) hk hr0 hr1).mono fun e w' h => Bc.bad hd (by decide) h
 have hkk:rd l 0 = 1 ∨ rd l 0 = 2 ∨ rd l 0 = 3 ∨ rd l 0 = 4:=by omega
 have n4:=fun a => Ub l a hby
 have n8:=fun a => Uc l a hby
 rcases hkk with hk1 | hk1 | hk1 | hk1
 ·by_cases hs:l.length < 14
  ·have hd:DT l = 103:=by rw [DT,if_neg h0,if_neg hk,if_pos (by rw [hk1]; exact hs)]
   exact (Zy.decode_short ad l.length c l w hC rfl hk1 (by omega) hs).mono fun e w' h => Bc.bad hd (by decide) h
  by_cases hm:14 < l.length
  ·have hd:DT l = 102:=by rw [DT,if_neg h0,if_neg hk,if_neg (by rw [hk1]; exact hs),if_pos (by rw [hk1]; exact hm)]
   exact (Zy.Di ad l.length c l w hC rfl hk1 (by omega) hm).mono fun e w' h => Bc.bad hd (by decide) h
  have hp:ES l = RP l:=by rw [ES,if_pos hk1]
  have hd:DT l = (RP l).code:=by rw [DT,if_neg h0,if_neg hk,if_neg (by rw [hk1]; exact hs),if_neg (by rw [hk1]; exact hm),hp]
  refine (Zy.Cc ad l.length c l (l.drop 1) w rfl hC rfl hcap hk1 (by omega) (by omega) (by omega)).mono ?_
  intro e w' h
  have n1:=Ud l 13 hby (by omega)
  simp only [AP,AO,Eu,F7,num1,Kv,List.drop_drop,Nat.reduceAdd,n4,n8,n1] at h
  exact Bc.flat (RP l) hp hd rfl h
 ·by_cases hs:l.length < 22
  ·have hd:DT l = 103:=by rw [DT,if_neg h0,if_neg hk,if_pos (by rw [hk1]; exact hs)]
   exact (aA.decode_short ad l.length c l w hC rfl hk1 (by omega) hs).mono fun e w' h => Bc.bad hd (by decide) h
  by_cases hm:1021 < l.length
  ·have hd:DT l = 102:=by rw [DT,if_neg h0,if_neg hk,if_neg (by rw [hk1]; exact hs),if_pos (by rw [hk1]; exact hm)]
   exact (aA.Di ad l.length c l w hC rfl hk1 (by omega) hm).mono fun e w' h => Bc.bad hd (by decide) h
  have hp:ES l = RQ l:=by rw [ES,if_neg (by rw [hk1]; decide),if_pos hk1]
  have hd:DT l = (RQ l).code:=by rw [DT,if_neg h0,if_neg hk,if_neg (by rw [hk1]; exact hs),if_neg (by rw [hk1]; exact hm),hp]
  refine (aA.Cc ad l.length c l (l.drop 1) w rfl hC rfl hcap hk1 (by omega) (by omega) (by omega)).mono ?_
  intro e w' h
  simp only [AP,AO,Eu,F7,num1,Kv,List.drop_drop,Nat.reduceAdd,n4,n8] at h
  exact Bc.long (RQ l) hp hd h
 ·by_cases hs:l.length < 17
  ·have hd:DT l = 103:=by rw [DT,if_neg h0,if_neg hk,if_pos (by rw [hk1]; exact hs)]
   exact (aH.decode_short ad l.length c l w hC rfl hk1 (by omega) hs).mono fun e w' h => Bc.bad hd (by decide) h
  by_cases hm:17 < l.length
  ·have hd:DT l = 102:=by rw [DT,if_neg h0,if_neg hk,if_neg (by rw [hk1]; exact hs),if_pos (by rw [hk1]; exact hm)]
   exact (aH.Di ad l.length c l w hC rfl hk1 (by omega) hm).mono fun e w' h => Bc.bad hd (by decide) h
  have hp:ES l = RS l:=by rw [ES,if_neg (by rw [hk1]; decide),if_neg (by rw [hk1]; decide),if_pos hk1]
  have hd:DT l = (RS l).code:=by rw [DT,if_neg h0,if_neg hk,if_neg (by rw [hk1]; exact hs),if_neg (by rw [hk1]; exact hm),hp]
  refine (aH.Cc ad l.length c l (l.drop 1) w rfl hC rfl hcap hk1 (by omega) (by omega) (by omega)).mono ?_
  intro e w' h
  simp only [AP,AO,Eu,F7,num1,Kv,List.drop_drop,Nat.reduceAdd,n4,n8] at h
  exact Bc.flat (RS l) hp hd rfl h
 ·by_cases hs:l.length < 41
  ·have hd:DT l = 103:=by rw [DT,if_neg h0,if_neg hk,if_pos (by rw [hk1]; exact hs)]
   exact (aJ.decode_short ad l.length c l w hC rfl hk1 (by omega) hs).mono fun e w' h => Bc.bad hd (by decide) h
  by_cases hm:41 < l.length
  ·have hd:DT l = 102:=by rw [DT,if_neg h0,if_neg hk,if_neg (by rw [hk1]; exact hs),if_pos (by rw [hk1]; exact hm)]
   exact (aJ.Di ad l.length c l w hC rfl hk1 (by omega) hm).mono fun e w' h => Bc.bad hd (by decide) h
  have hp:ES l = RU l:=by rw [ES,if_neg (by rw [hk1]; decide),if_neg (by rw [hk1]; decide),if_neg (by rw [hk1]; decide)]
  have hd:DT l = (RU l).code:=by rw [DT,if_neg h0,if_neg hk,if_neg (by rw [hk1]; exact hs),if_neg (by rw [hk1]; exact hm),hp]
  refine (aJ.Cc ad l.length c l (l.drop 1) w rfl hC rfl hcap hk1 (by omega) (by omega) (by omega)).mono ?_
  intro e w' h
  simp only [AP,AO,Eu,F7,num1,Kv,List.drop_drop,Nat.reduceAdd,n4,n8] at h
  exact Bc.flat (RU l) hp hd rfl h
end Go.Proofs.Ytnkkgofpifhoeaa.Pk
end
section
namespace Go.Proofs.YtnkkgofpifhoeaaW.PrintWords
theorem D9.one {α:Type} {R:α → List Value → Prop} {ps:List α} {cs:List Value} {p:α} {v:Value} (hp:R p [v]) (h:D9 R 1 ps cs):D9 R 1 (p :: ps) (v :: cs):=by
 refine ⟨by simp [h.1],fun j q hq => ?_⟩
 cases j with
 | zero =>
  simp only [List.getElem?_cons_zero,Option.some.injEq] at hq
  subst hq
  simpa using hp
 | succ j =>
  simp only [List.getElem?_cons_succ] at hq
  have h1:=h.2 j q hq
  simpa [Nat.mul_one] using h1
end Go.Proofs.YtnkkgofpifhoeaaW.PrintWords
end
section
namespace Go.Proofs.YtnkkgofpifhoeaaW.PrintWords
open Go.RowKit
section
variable {P:Program} {ops:Array Oper} {rest:List Oper} {o:Oper} {a:Act} {Q:Exit → Act → World → Prop} {W:World}
theorem Ce (hw:Region.wanted o (yielded ops a.tmps) = true) (h:wpList P ops Q ({ o with guard:=none } :: rest) a W):wpList P ops Q (o :: rest) a W:=by
 have h1:Region.wanted { o with guard:=none } (yielded ops a.tmps) = true:=rfl
 unfold wpList at h ⊢
 rw [if_pos h1] at h
 rw [if_pos hw]
 exact h
end
end Go.Proofs.YtnkkgofpifhoeaaW.PrintWords
end
section
namespace Go.Proofs.Ytnkkgofpifhoeaa.Hu
open Go.RowKit Go.Proofs.YtnkkgofpifhoeaaW.PrintWords Go.Proofs.YtnkkgofpifhoeaaW.PrintLast

theorem info5:(Try.prog.info? 5).map (fun i => (i.zero,i.size,i.bytes)) = some (some (.int .u8 0),1,1):=by kernel_rfl

def Ar.l0:Nat → List Int → Int → Int → Option (List Int)
 | 0,_,_,_ => none
 | k + 1,x0,x1,x7 => if x7 ≥ 0 then (if 0 ≤ (wrap64 (8 * x7)) then (if x0.length < 140737488355328 then (Ar.l0 k (x0 ++ [(shr .u64 x1 (wrap64 (8 * x7))) % 256]) x1 (wrap64 (x7 - 1))) else (none)) else (none)) else (some x0)
def Ar.f (k:Nat) (l0:List Int) (a1:Int) (a2:Int):Option (List Int):=Ar.l0 k l0 a1 (wrap64 (a2 - 1))
theorem Ar.calls (k:Nat) (UC:Nat → Prop) (Nq:Value) (l0:List Int) (a1:Int) (a2:Int) (r:List Int) (w0 w:World) (hB:Below w0.heap.size w0 w) (ho0:Kd.R (Kd.int .u8) 5 w w0.heap.size UC Nq l0) (h:Ar.f k l0 a1 a2 = some r) :
  Calls Try.prog 64 #[Nq,.int .u64 a1,.int .i64 a2] w fun e w' => ∃ iw:Value,e = .returned (iw) ∧ Kd.R (Kd.int .u8) 5 w' w0.heap.size (fun k_ => (UC k_ ∨ w.heap.size ≤ k_)) iw r ∧ Below w0.heap.size w0 w' ∧ Kept w w' (fun k_ => UC k_):=by
 have pY:=Du.mk (show Kd.R (Kd.int .u8) 5 w w0.heap.size (fun k_ => (UC k_ ∨ w.heap.size ≤ k_)) Nq l0 from Kd.Az ho0 (fun k_ hk => (.inl hk)))
 have HK:=Du.mk (Kept.refl w (fun k_ => UC k_))
 have HW0:=Du.mk hB.size
 have HB:=Du.mk hB
 clear hB
 have H:(Ar.l0 k l0 a1 (wrap64 (a2 - 1))) = some r:=h
 clear h
 have H':=Du.mk H
 clear H
 go_enter Try.func64,Try.ntmps64
 go_wp2
 go_loopg [0,7] k (fun kq v0 v7 w' => ∃ (Jw:List Int) (Iu:Int),v7 = .int .i64 Iu ∧ Du (Ar.l0 kq Jw a1 Iu = some r) ∧ Du (kq ≤ k) ∧ Du (Kd.R (Kd.int .u8) 5 w' w0.heap.size (fun k_ => (UC k_ ∨ w.heap.size ≤ k_)) v0 Jw) ∧ Du (Kept w w' (fun k_ => UC k_)) ∧ Du (Below w0.heap.size w0 w'))
 case atStart => exact ⟨(l0),(wrap64 (a2 - 1)),(by first | rfl | (simp; done) | (simp [*]; done)),H',⟨Nat.le_refl _⟩,⟨by (with_reducible repeat (first | apply Kd.Ky | apply Kd.Kz | apply Kd.Nr)); exact pY.out⟩,⟨by repeat (first | (with_reducible first | exact HK.out | apply Kept.alloc | apply Kept.drewN | apply Kept.drew) | exact HK.out)⟩,⟨by repeat (first | (with_reducible first | exact HB.out | apply DZ | apply BI | apply E8) | exact HB.out)⟩⟩
 case round =>
  clear H'
  try clear p2
  obtain ⟨Jw,Iu,rfl,HA,RZ,Uh,HK,HB⟩:=hrel
  cases gk with
  | zero => exact absurd HA.out (by simp [Ar.l0])
  | succ k1 =>
   have H:=HA.out
   clear HA
   simp only [Ar.l0] at H
   by_cases c4:Iu ≥ 0
   ·rw [if_pos c4] at H
    have dD:decide (0 ≤ Iu) = true:=decide_eq_true c4
    clear c4
    obtain ⟨Ui,Vq⟩:∃ j_:Int,(wrap64 (8 * Iu)) = j_:=⟨_,rfl⟩
    replace H:(if 0 ≤ (Ui) then (if Jw.length < 140737488355328 then (Ar.l0 k1 (Jw ++ [(shr .u64 a1 (Ui)) % 256]) a1 (wrap64 (Iu - 1))) else (none)) else (none)) = some r:=by first | (rw [Vq] at H; exact H) | (simp only [Vq] at H ⊢; exact H)
    have iy:(IntKind.i64.wrap (8 * Iu)) = Ui:=(Xg _).trans Vq
    by_cases c6:0 ≤ (Ui)
    ·rw [if_pos c6] at H
     have pg:=eq_true c6
     have pq:decide (0 ≤ (Ui)) = true:=decide_eq_true c6
     clear c6
     obtain ⟨XN,Uj⟩:∃ j_:Int,(shr .u64 a1 (Ui)) = j_:=⟨_,rfl⟩
     replace H:(if Jw.length < 140737488355328 then (Ar.l0 k1 (Jw ++ [(XN) % 256]) a1 (wrap64 (Iu - 1))) else (none)) = some r:=by first | (rw [Uj] at H; exact H) | (simp only [Uj] at H ⊢; exact H)
     have jA:(a1 / 2 ^ min (Ui).toNat 64) = XN:=Uj
     have jB:(Ui) ≤ 64 → (a1 / 2 ^ (Ui).toNat) = XN:=QA Uj
     by_cases c8:Jw.length < 140737488355328
     ·rw [if_pos c8] at H
      have dF:=Du.mk c8
      clear c8
      obtain ⟨y101,hy101⟩:∃ y_:List Int,y_ = (Jw ++ [(XN) % 256]):=⟨_,rfl⟩
      replace H:(Ar.l0 k1 y101 a1 (wrap64 (Iu - 1))) = some r:=by first | (rw [hy101]; with_reducible exact H) | (have dG:=(Option.bind_some _ _).symm.trans H; rw [hy101]; with_reducible exact dG) | (have dG:=(Option.bind_some _ _).symm.trans H; with_reducible exact dG) | with_reducible exact H | (rw [hy101]; exact H) | exact H
      have Xq:=Du.mk hy101
      clear hy101
      have H':=Du.mk H
      clear H
      go_wp2_with (first | ((with_reducible refine Ku (b:=.append) (xs:=#[.tmp 14,.tmp 20]) rfl ?_); at_builtin; refine Kd.Ej (Kd.int .u8) (w0:=w0) w0.heap.size rfl (.tmp 14) (.tmp 20) 22 5 (.int .u8 0) 1 rfl Try.underlying22 info5 rfl (by decide) (by omega) u0 Jw ((XN) % 256) [.int .u8 ((XN) % 256)] (fun k_ => (UC k_ ∨ w.heap.size ≤ k_)) (fun _ => False) rfl rfl ?aP (fun _ hk => hk.elim) ?aF ?aO ?aB ?aS ?aL ?_; (case aP => exact rfl); (case aB => exact (by repeat (first | (with_reducible first | exact HB.out | apply DZ | apply BI | apply E8) | exact HB.out))); (case aF => exact (fun k_ hk => (.inr (Nat.le_trans (by first | exact HK.out.1 | exact (show Kept w _ (fun k_ => UC k_) from by repeat (first | (with_reducible first | exact HK.out | apply Kept.alloc | apply Kept.drewN | apply Kept.drew) | exact HK.out)).1) hk)))); (case aO => exact (by (with_reducible repeat (first | apply Kd.Ky | apply Kd.Kz | apply Kd.Nr)); exact Uh.out)); (case aS => exact (NU (by repeat (first | (with_reducible first | exact HB.out | apply DZ | apply BI | apply E8) | exact HB.out)))); (case aL => have:=dF.out; omega); intro pz w9 ho hb hg hat; rw [← Xq.out] at ho; have jC:=Du.mk (hb); have jD:=Du.mk (Kept.Eo (S:=(fun k_ => UC k_)) hg (by repeat (first | (with_reducible first | exact HK.out | apply Kept.alloc | apply Kept.drewN | apply Kept.drew) | exact HK.out)) (fun k_ e_ => (Uh.out.1 k_ e_))); have jE:=Du.mk (ho); clear HB; clear HK; clear Uh; have HB:=jC; have HK:=jD; have Xr:=jE; clear jC jD jE; clear ho hb hg hat))
      go_roundg k1
      case measure => have:=RZ.out; omega
      case rel => exact ⟨(y101),(wrap64 (Iu - 1)),(by first | rfl | (simp; done) | (simp [*]; done)),H',⟨by have:=RZ.out; omega⟩,⟨by (with_reducible repeat (first | apply Kd.Ky | apply Kd.Kz | apply Kd.Nr)); exact Xr.out⟩,⟨by repeat (first | (with_reducible first | exact HK.out | apply Kept.alloc | apply Kept.drewN | apply Kept.drew) | exact HK.out)⟩,⟨by repeat (first | (with_reducible first | exact HB.out | apply DZ | apply BI | apply E8) | exact HB.out)⟩⟩
     ·rw [if_neg c8] at H
      exact absurd H (by simp)
    ·rw [if_neg c6] at H
     exact absurd H (by simp)
   ·rw [if_neg c4] at H
    have dD:decide (0 ≤ Iu) = false:=decide_eq_false c4
    clear c4
    obtain rfl:=Option.some.inj H
    go_wp2
    go_ret
    exact ⟨_,by first | rfl | (simp [QC,QD] <;> rfl) | (simp [*,QC,QD] <;> rfl),by (with_reducible repeat (first | apply Kd.Ky | apply Kd.Kz | apply Kd.Nr)); exact Uh.out,by repeat (first | (with_reducible first | exact HB.out | apply DZ | apply BI | apply E8) | exact HB.out),by repeat (first | (with_reducible first | exact HK.out | apply Kept.alloc | apply Kept.drewN | apply Kept.drew) | exact HK.out)⟩
end Go.Proofs.Ytnkkgofpifhoeaa.Hu
end
section
namespace Go.Proofs.Ytnkkgofpifhoeaa.Pk
open Go.RowKit Go.Proofs.Ytnkkgofpifhoeaa.Base Go.Proofs.YtnkkgofpifhoeaaW.PrintWords Go.Proofs.YtnkkgofpifhoeaaW.PrintLast Go.Proofs.Ytnkkgofpifhoeaa.Hu
def CJ (n:Int):List Int:=[(shr .u64 n 24) % 256,(shr .u64 n 16) % 256,(shr .u64 n 8) % 256,(shr .u64 n 0) % 256]
def DU (n:Int):List Int:=[(shr .u64 n 56) % 256,(shr .u64 n 48) % 256,(shr .u64 n 40) % 256,(shr .u64 n 32) % 256,(shr .u64 n 24) % 256,(shr .u64 n 16) % 256,(shr .u64 n 8) % 256,(shr .u64 n 0) % 256]
theorem CY (k:Nat) (l:List Int) (n i:Int) (h0:0 ≤ i) (h1:i ≤ 7) (hl:l.length ≤ 100000):Ar.l0 (k + 1) l n i = Ar.l0 k (l ++ [(shr .u64 n (8 * i)) % 256]) n (i - 1):=by
 have e1:wrap64 (8 * i) = 8 * i:=by unfold wrap64; omega
 have e2:wrap64 (i - 1) = i - 1:=by unfold wrap64; omega
 rw [Ar.l0,e1,e2,if_pos h0,if_pos (by omega),if_pos (by omega)]
theorem L8 (k:Nat) (l:List Int) (n:Int):Ar.l0 (k + 1) l n (-1) = some l:=by
 rw [Ar.l0,if_neg (by decide)]
theorem Xt (l:List Int) (n:Int) (hl:l.length ≤ 50000):Ar.f 9 l n 4 = some (l ++ CJ n):=by
 have e:wrap64 (4 - 1) = 3:=by unfold wrap64; omega
 have h:∀ m:List Int,m.length ≤ 8 → (l ++ m).length ≤ 100000:=fun m hm => by rw [List.length_append]; omega
 unfold Ar.f
 rw [e,CY 8 l n 3 (by decide) (by decide) (by omega)]
 show Ar.l0 8 (l ++ [(shr .u64 n 24) % 256]) n 2 = _
 rw [CY 7 _ n 2 (by decide) (by decide) (h _ (by simp)),List.append_assoc]
 show Ar.l0 7 (l ++ [(shr .u64 n 24) % 256,(shr .u64 n 16) % 256]) n 1 = _
 rw [CY 6 _ n 1 (by decide) (by decide) (h _ (by simp)),List.append_assoc]
 show Ar.l0 6 (l ++ [(shr .u64 n 24) % 256,(shr .u64 n 16) % 256,(shr .u64 n 8) % 256]) n 0 = _
 rw [CY 5 _ n 0 (by decide) (by decide) (h _ (by simp)),List.append_assoc]
 exact L8 4 _ n
theorem Xu (l:List Int) (n:Int) (hl:l.length ≤ 50000):Ar.f 9 l n 8 = some (l ++ DU n):=by
 have e:wrap64 (8 - 1) = 7:=by unfold wrap64; omega
 have h:∀ m:List Int,m.length ≤ 8 → (l ++ m).length ≤ 100000:=fun m hm => by rw [List.length_append]; omega
 unfold Ar.f
 rw [e,CY 8 l n 7 (by decide) (by decide) (by omega)]
 show Ar.l0 8 (l ++ [(shr .u64 n 56) % 256]) n 6 = _
 rw [CY 7 _ n 6 (by decide) (by decide) (h _ (by simp)),List.append_assoc]
 show Ar.l0 7 (l ++ [(shr .u64 n 56) % 256,(shr .u64 n 48) % 256]) n 5 = _
 rw [CY 6 _ n 5 (by decide) (by decide) (h _ (by simp)),List.append_assoc]
 show Ar.l0 6 (l ++ [(shr .u64 n 56) % 256,(shr .u64 n 48) % 256,(shr .u64 n 40) % 256]) n 4 = _
 rw [CY 5 _ n 4 (by decide) (by decide) (h _ (by simp)),List.append_assoc]
 show Ar.l0 5 (l ++ [(shr .u64 n 56) % 256,(shr .u64 n 48) % 256,(shr .u64 n 40) % 256,(shr .u64 n 32) % 256]) n 3 = _
 rw [CY 4 _ n 3 (by decide) (by decide) (h _ (by simp)),List.append_assoc]
 show Ar.l0 4 (l ++ [(shr .u64 n 56) % 256,(shr .u64 n 48) % 256,(shr .u64 n 40) % 256,(shr .u64 n 32) % 256,(shr .u64 n 24) % 256]) n 2 = _
 rw [CY 3 _ n 2 (by decide) (by decide) (h _ (by simp)),List.append_assoc]
 show Ar.l0 3 (l ++ [(shr .u64 n 56) % 256,(shr .u64 n 48) % 256,(shr .u64 n 40) % 256,(shr .u64 n 32) % 256,(shr .u64 n 24) % 256,(shr .u64 n 16) % 256]) n 1 = _
 rw [CY 2 _ n 1 (by decide) (by decide) (h _ (by simp)),List.append_assoc]
 show Ar.l0 2 (l ++ [(shr .u64 n 56) % 256,(shr .u64 n 48) % 256,(shr .u64 n 40) % 256,(shr .u64 n 32) % 256,(shr .u64 n 24) % 256,(shr .u64 n 16) % 256,(shr .u64 n 8) % 256]) n 0 = _
 rw [CY 1 _ n 0 (by decide) (by decide) (h _ (by simp)),List.append_assoc]
 exact L8 0 _ n
def LC (w0 w:World) (l:List Int) (e:Ending) (w':World):Prop :=
 ∃ v,e = .returned v ∧ (Kd.int .u8).R 5 w' w0.heap.size (fun _ => True) v l ∧ Below w0.heap.size w0 w' ∧ ∀ (g:Nat) (cs:Array Value) (t:TypeId),t ≠ 5 → w.heap[g]? = some (Obj.cells cs t (0,0)) → w'.heap[g]? = some (Obj.cells cs t (0,0))
theorem Rh (size:Int) (w0 w:World) (v:Value) (l r:List Int) (n:Int) (hB:Below w0.heap.size w0 w) (hR:(Kd.int .u8).R 5 w w0.heap.size (fun _ => True) v l) (hf:Ar.f 9 l n size = some r) :
  Calls Try.prog 64 #[v,.int .u64 n,.int .i64 size] w (LC w0 w r):=by
 have hb:=Kd.Az (ok':=fun k => ∃ cs,w.heap[k]? = some (.cells cs 5 (0,0))) (Kd.CG hR) (fun k hk => by
  obtain ⟨_,_,_,q,hq,cs,hc⟩:=hk
  have:q = 5:=by
   have hE:(5 :: (Kd.int .u8).E) = [5]:=rfl
   rw [hE] at hq
   exact List.mem_singleton.1 hq
  subst this
  exact ⟨cs,hc⟩)
 refine (Ar.calls 9 _ v l n size r w0 w hB hb hf).mono ?_
 rintro e w' ⟨v',rfl,hR',hB',hK⟩
 refine ⟨v',rfl,Kd.Az hR' (fun _ _ => trivial),hB',fun g cs t ht hg => ?_⟩
 refine Ah hg hK ?_
 rintro ⟨cs',hc'⟩
 rw [hg] at hc'
 injection hc' with hc'
 injection hc' with _ h2
 exact ht h2
theorem Bg (w0 w:World) (v:Value) (l:List Int) (n:Int) (hB:Below w0.heap.size w0 w) (hR:(Kd.int .u8).R 5 w w0.heap.size (fun _ => True) v l) (hl:l.length ≤ 50000) :
  Calls Try.prog 64 #[v,.int .u64 n,.int .i64 4] w (LC w0 w (l ++ CJ n)):=Rh 4 w0 w v l _ n hB hR (Xt l n hl)
theorem L9 (w0 w:World) (v:Value) (l:List Int) (n:Int) (hB:Below w0.heap.size w0 w) (hR:(Kd.int .u8).R 5 w w0.heap.size (fun _ => True) v l) (hl:l.length ≤ 50000) :
  Calls Try.prog 64 #[v,.int .u64 n,.int .i64 8] w (LC w0 w (l ++ DU n)):=Rh 8 w0 w v l _ n hB hR (Xu l n hl)
theorem O1 (W:World) (base:Nat) (xs:List Int) (hb:base ≤ W.heap.size) (hl:xs.length ≤ 1000000) :
  (Kd.int .u8).R 5 (W.alloc (.cells (xs.map (Value.int .u8)).toArray 5)) base (fun _ => True) (.slice (some ⟨W.heap.size,0,none⟩) xs.length xs.length) xs:=by
 have h2:=World.ownsRow_lit (base:=base) (e:=5) (size:=1) W (xs.map (Value.int .u8)).toArray xs.length hb (by unfold maxLen; omega) (by simp)
 exact Kd.Ll (enc:=Value.int .u8) (h1:=fun _ => rfl) (by simpa [encs] using h2) (fun _ _ => trivial)
end Go.Proofs.Ytnkkgofpifhoeaa.Pk
end
section
namespace Go.Proofs.Ytnkkgofpifhoeaa.Pk
open Go.RowKit Go.Proofs.Ytnkkgofpifhoeaa.Base Go.Proofs.YtnkkgofpifhoeaaW.PrintWords Go.Proofs.YtnkkgofpifhoeaaW.PrintLast
theorem EZ (n:Int) (k:Nat) (hk:k ≤ 64):shr .u64 n (k:Int) = n / 2 ^ k:=by
 unfold shr
 rw [Int.toNat_natCast,Nat.min_eq_left (show k ≤ IntKind.u64.bits from hk)]
theorem O3 (n:Int):CJ n = [n / 16777216 % 256,n / 65536 % 256,n / 256 % 256,n % 256]:=by
 unfold CJ
 rw [show shr .u64 n 24 = n / 16777216 from EZ n 24 (by decide),show shr .u64 n 16 = n / 65536 from EZ n 16 (by decide),show shr .u64 n 8 = n / 256 from EZ n 8 (by decide),show shr .u64 n 0 = n / 1 from EZ n 0 (by decide),Int.ediv_one]
theorem O4 (n:Int):DU n = [n / 72057594037927936 % 256,n / 281474976710656 % 256,n / 1099511627776 % 256,n / 4294967296 % 256,n / 16777216 % 256,n / 65536 % 256,n / 256 % 256,n % 256]:=by
 unfold DU
 rw [show shr .u64 n 56 = n / 72057594037927936 from EZ n 56 (by decide),show shr .u64 n 48 = n / 281474976710656 from EZ n 48 (by decide),show shr .u64 n 40 = n / 1099511627776 from EZ n 40 (by decide),show shr .u64 n 32 = n / 4294967296 from EZ n 32 (by decide),show shr .u64 n 24 = n / 16777216 from EZ n 24 (by decide),show shr .u64 n 16 = n / 65536 from EZ n 16 (by decide),show shr .u64 n 8 = n / 256 from EZ n 8 (by decide),show shr .u64 n 0 = n / 1 from EZ n 0 (by decide),Int.ediv_one]
end Go.Proofs.Ytnkkgofpifhoeaa.Pk
end
section
namespace Go.Proofs.Ytnkkgofpifhoeaa.jF
open Go.RowKit Go.Proofs.Ytnkkgofpifhoeaa.Base Go.Proofs.Ytnkkgofpifhoeaa.Pk Go.Proofs.YtnkkgofpifhoeaaW.PrintWords Go.Proofs.YtnkkgofpifhoeaaW.PrintLast Go.Proofs.Ytnkkgofpifhoeaa.Steps
theorem Vr (w:World):(Instr.index 108 table (.int .i64 1)).run Try.prog w = .ok (.agg #[.bool true,.bool false,.bool false,.bool false,.int .i64 14,.int .i64 14]) w:=by kernel_rfl
def EH (w:World) (L:List Int) (e:Ending) (w':World):Prop:=∃ v,e = .returned (.tuple #[v,.int .i64 0]) ∧ (Kd.int .u8).R 5 w' w.heap.size (fun _ => True) v L ∧ Below w.heap.size w w'
theorem Ri (mine AL yours seq AX stamp echo:Int) (zr zi:Nat) (A:Option Addr) (c:Nat) (body:List Int) (w:World) (hC:Kd.C (Kd.int .u8) w A body.length body) (hbl:body.length ≤ 20000)
  (hck:Aj 1 mine AL yours seq AX stamp echo zr zi body.length = 0) (hp:zr < 18446744073709551616) (hq:zi < 18446744073709551616) :
  Calls Try.prog 19 #[.agg #[.int .i64 1,.int .u32 mine,.int .u32 AL,.int .u32 yours,.int .u32 seq,.int .u32 AX,.int .u32 stamp,.int .u32 echo,.complex .f64 zr zi,.slice A body.length c]] w (EH w (((([1] ++ CJ (IntKind.u64.wrap mine)) ++ CJ (IntKind.u64.wrap AL)) ++ CJ (IntKind.u64.wrap yours)) ++ [IntKind.u8.wrap seq])):=by
 have DV:=Try.underlying27
 have Ep:=Try.underlying107
 have hix:=Vr
 have Es:=Lib.hid hck
 have HC:=Lib.hid hC
 have HL:=Lib.hid hbl
 have BZ:=Lib.hid hp
 have Vs:=Lib.hid hq
 clear hck hC hbl hp hq
 go_enter Try.func19,Try.ntmps19
 go_wp2_with (go_at_call 20; refine (check_any _ _ _ _ _ _ _ _ _ _ _ _ _ _ BZ.out Vs.out).mono ?_; rintro e w1 ⟨rfl,hb⟩; rw [Es.out]; have HX:=Lib.hid ((hb.block w.heap.size (by simp)).trans (heap_alloc_new w (.cells #[.int .i64 1,.int .u32 mine,.int .u32 AL,.int .u32 yours,.int .u32 seq,.int .u32 AX,.int .u32 stamp,.int .u32 echo,.complex .f64 zr zi,.slice A body.length c] 27))); have HW:=Lib.hid (((Below.refl w.heap.size w).alloc (Nat.le_refl _) (.cells #[.int .i64 1,.int .u32 mine,.int .u32 AL,.int .u32 yours,.int .u32 seq,.int .u32 AX,.int .u32 stamp,.int .u32 echo,.complex .f64 zr zi,.slice A body.length c] 27)).trans (hb.mono (by simp))); clear hb)
 have DC:w1.drew.heap[w.heap.size]? = some (.cells #[.int .i64 1,.int .u32 mine,.int .u32 AL,.int .u32 yours,.int .u32 seq,.int .u32 AX,.int .u32 stamp,.int .u32 echo,.complex .f64 zr zi,.slice A body.length c] 27 (0,0)):=HX.out
 have Aq:Below w.heap.size w w1.drew:=Am HW.out
 clear HX HW
 have HW:=Lib.hid Aq
 clear Aq
 refine BC (n:=6) (S:=fun w' => w'.heap[w.heap.size]? = some (.cells #[.int .i64 1,.int .u32 mine,.int .u32 AL,.int .u32 yours,.int .u32 seq,.int .u32 AX,.int .u32 stamp,.int .u32 echo,.complex .f64 zr zi,.slice A body.length c] 27 (0,0))) (ds:=[]) Zr (by kernel_rfl) rfl rfl (DC) (fun hHeld => ?_)
 generalize w1.drew = w2 at HW hHeld ⊢
 refine pu 1 13 Zt ?_
 refine tk 2 14 Zu hHeld ?_ (hf:=by intro w' s0; have hc0:w'.cell? ⟨w.heap.size,0,none⟩ = some (.int .i64 1):=(AA s0 0).trans rfl; clear s0; go_simp; with_reducible rfl)
 refine Dv (σ:=Nat) 1 XK (fun g => [(12,table),(15,.agg #[.bool true,.bool false,.bool false,.bool false,.int .i64 14,.int .i64 14]),(5,.pointer (some ⟨g,0,none⟩))]) (fun g w' => w'.heap[g]? = some (.cells #[.bool false,.bool false,.bool false,.bool false,.int .i64 0,.int .i64 0] 107 (0,0)) ∧ Below w.heap.size w w' ∧ w.heap.size < g ∧ w'.heap[w.heap.size]? = some (.cells #[.int .i64 1,.int .u32 mine,.int .u32 AL,.int .u32 yours,.int .u32 seq,.int .u32 AX,.int .u32 stamp,.int .u32 echo,.complex .f64 zr zi,.slice A body.length c] 27 (0,0))) ?_ ?_
 rotate_left
 ·intro hcont
  exact Z2
 intro g w3 ⟨hbx,hbel,hgt,hHeld⟩
 clear HW
 refine Dn (a':=?_) ?_ ?_
 rotate_left
 ·show Ak _ _ = _
  simp only [Ak,Act.put,sA,sZ,sS]
  rfl
 have hd0:w3.cell? ⟨g,0,none⟩ = some (.bool false):=(AA hbx 0).trans rfl
 have hf0:=AB hbx 0
 have hd1:w3.cell? ⟨g,1,none⟩ = some (.bool false):=(AA hbx 1).trans rfl
 have hf1:=AB hbx 1
 have hd2:w3.cell? ⟨g,2,none⟩ = some (.bool false):=(AA hbx 2).trans rfl
 have hf2:=AB hbx 2
 have hd3:w3.cell? ⟨g,3,none⟩ = some (.bool false):=(AA hbx 3).trans rfl
 have hf3:=AB hbx 3
 have hd4:w3.cell? ⟨g,4,none⟩ = some (.int .i64 0):=(AA hbx 4).trans rfl
 have hf4:=AB hbx 4
 have hd5:w3.cell? ⟨g,5,none⟩ = some (.int .i64 0):=(AA hbx 5).trans rfl
 have hf5:=AB hbx 5
 refine on 5 none Zv fun K hK => ?_
 refine BN (fun wz => wz.heap[g]? = some (.cells #[.bool true,.bool false,.bool false,.bool false,.int .i64 14,.int .i64 14] 107 (0,0)) ∧ At g w3 wz) (by rfl) rfl ⟨_,by first | (go_simp; done) | (go_simp; rfl),?_,?_⟩ (fun w4 hF => ?_)
 ·skip
  exact Zw
 ·repeat (first | (with_reducible exact At.refl _ _) | refine At.set ?_ _ _)
 obtain ⟨hB4,hat⟩:=hF
 have Ns:=(hat.block w.heap.size (by omega)).trans hHeld
 have HW:=Lib.hid (hat.below hbel (by omega))
 have HB:=Lib.hid hB4
 clear hbx hbel hat hHeld hB4 hd0 hf0 hd1 hf1 hd2 hf2 hd3 hf3 hd4 hf4 hd5 hf5
 refine hK.out _ _ Ns (fun hHeld => ?_)
 clear hK K Ns
 refine BU (by kernel_rfl) ?_
 have HX:=Lib.hid hHeld
 clear hHeld
 go_wp2_with fail
 have DC:w4.drew.heap[w.heap.size]? = some (.cells #[.int .i64 1,.int .u32 mine,.int .u32 AL,.int .u32 yours,.int .u32 seq,.int .u32 AX,.int .u32 stamp,.int .u32 echo,.complex .f64 zr zi,.slice A body.length c] 27 (0,0)):=HX.out
 have Bf:w4.drew.heap[g]? = some (.cells #[.bool true,.bool false,.bool false,.bool false,.int .i64 14,.int .i64 14] 107 (0,0)):=HB.out
 have Aq:Below w.heap.size w w4.drew:=Am HW.out
 clear HX HB HW
 have HB:=Lib.hid Bf
 have HW:=Lib.hid Aq
 clear Bf Aq
 refine BC (n:=17) (S:=fun w' => w'.heap[w.heap.size]? = some (.cells #[.int .i64 1,.int .u32 mine,.int .u32 AL,.int .u32 yours,.int .u32 seq,.int .u32 AX,.int .u32 stamp,.int .u32 echo,.complex .f64 zr zi,.slice A body.length c] 27 (0,0))) (ds:=[]) ZF (by kernel_rfl) rfl rfl (DC) (fun hHeld => ?_)
 generalize w4.drew = w5 at HB HW hHeld ⊢
 refine pu 0 16 ZG ?_
 refine tk 1 17 ZH hHeld ?_ (hf:=by intro w' s0; have hc0:w'.cell? ⟨w.heap.size,0,none⟩ = some (.int .i64 1):=(AA s0 0).trans rfl; clear s0; go_simp; with_reducible rfl)
 refine pu 2 18 ZI ?_
 refine pu 4 20 ZJ ?_
 refine tk 5 21 ZK hHeld ?_ (hf:=by intro w' s0; have hc1:w'.cell? ⟨w.heap.size,1,none⟩ = some (.int .u32 mine):=(AA s0 1).trans rfl; clear s0; go_simp; with_reducible rfl)
 refine pu 6 22 ZL ?_
 refine pu 8 24 ZN ?_
 refine tk 9 25 ZP hHeld ?_ (hf:=by intro w' s0; have hc2:w'.cell? ⟨w.heap.size,2,none⟩ = some (.int .u32 AL):=(AA s0 2).trans rfl; clear s0; go_simp; with_reducible rfl)
 refine pu 10 26 ZR ?_
 refine pu 12 28 ZU ?_
 refine tk 13 29 ZW hHeld ?_ (hf:=by intro w' s0; have hc3:w'.cell? ⟨w.heap.size,3,none⟩ = some (.int .u32 yours):=(AA s0 3).trans rfl; clear s0; go_simp; with_reducible rfl)
 refine pu 14 30 ZY ?_
 refine on 3 (some 19) Za fun K hK => ?_
 refine GH (v:=.slice (some ⟨w5.heap.size,0,none⟩) 1 1) (by rfl) rfl (w1:=w5.alloc (.cells #[.int .u8 1] 5)) ?_ ?_
 ·first | (go_simp; done) | (go_simp; rfl)
 have ED:=(Below.refl w5.heap.size w5).alloc (Nat.le_refl _) (.cells #[.int .u8 1] 5)
 have CU:=O1 w5 w.heap.size [1] HW.out.size (by decide)
 have LD:(Kd.int .u8).R 5 (w5.alloc (.cells #[.int .u8 1] 5)) w.heap.size (fun _ => True) (.slice (some ⟨w5.heap.size,0,none⟩) 1 1) [1]:=CU
 have Bv:=(ED.block w.heap.size (AU hHeld)).trans hHeld
 have DK:=(ED.block g (AU HB.out)).trans HB.out
 have Aq:=HW.out.trans (ED.mono HW.out.size)
 generalize hv0:Value.slice (some ⟨w5.heap.size,0,none⟩) 1 1 = v0 at LD ⊢
 clear hv0 ED CU
 generalize w5.alloc (.cells #[.int .u8 1] 5) = w6 at LD Bv DK Aq ⊢
 clear HW HB
 have HR:=Lib.hid LD
 have HW:=Lib.hid Aq
 have HB:=Lib.hid DK
 clear LD Aq DK
 refine hK.out _ _ Bv (fun hHeld => ?_)
 clear hK K Bv
 refine nm 19 ?_
 refine on 7 (some 23) Zc fun K hK => ?_
 refine BR Try.func64 (by kernel_rfl) rfl #[v0,.int .u64 (IntKind.u64.wrap mine),.int .i64 4] (by rfl) rfl rfl (by (try simp only [List.map_toArray,List.map_cons,List.map_nil]); first | done | rfl) ?_
 refine (Bg w _ _ _ _ HW.out HR.out (by have:=HL.out; simp [CJ,DU]; try omega)).mono ?_
 rintro e w7 ⟨v7,rfl,CU,hBl,hkeep⟩
 have Bv:=hkeep w.heap.size _ 27 (by decide) hHeld
 have DK:=hkeep g _ 107 (by decide) HB.out
 clear HR HB HW hkeep
 have HR:=Lib.hid CU
 have HB:=Lib.hid DK
 have HW:=Lib.hid hBl
 clear CU DK hBl
 refine ⟨_,rfl,?_⟩
 refine hK.out _ _ Bv (fun hHeld => ?_)
 clear hK K Bv
 refine nm 23 ?_
 refine on 11 (some 27) M10 fun K hK => ?_
 refine BR Try.func64 (by kernel_rfl) rfl #[v7,.int .u64 (IntKind.u64.wrap AL),.int .i64 4] (by rfl) rfl rfl (by (try simp only [List.map_toArray,List.map_cons,List.map_nil]); first | done | rfl) ?_
 refine (Bg w _ _ _ _ HW.out HR.out (by have:=HL.out; simp [CJ,DU]; try omega)).mono ?_
 rintro e w8 ⟨v8,rfl,CU,hBl,hkeep⟩
 have Bv:=hkeep w.heap.size _ 27 (by decide) hHeld
 have DK:=hkeep g _ 107 (by decide) HB.out
 clear HR HB HW hkeep
 have HR:=Lib.hid CU
 have HB:=Lib.hid DK
 have HW:=Lib.hid hBl
 clear CU DK hBl
 refine ⟨_,rfl,?_⟩
 refine hK.out _ _ Bv (fun hHeld => ?_)
 clear hK K Bv
 refine nm 27 ?_
 refine on 15 (some 31) M13 fun K hK => ?_
 refine BR Try.func64 (by kernel_rfl) rfl #[v8,.int .u64 (IntKind.u64.wrap yours),.int .i64 4] (by rfl) rfl rfl (by (try simp only [List.map_toArray,List.map_cons,List.map_nil]); first | done | rfl) ?_
 refine (Bg w _ _ _ _ HW.out HR.out (by have:=HL.out; simp [CJ,DU]; try omega)).mono ?_
 rintro e w9 ⟨v9,rfl,CU,hBl,hkeep⟩
 have Bv:=hkeep w.heap.size _ 27 (by decide) hHeld
 have DK:=hkeep g _ 107 (by decide) HB.out
 clear HR HB HW hkeep
 have HR:=Lib.hid CU
 have HB:=Lib.hid DK
 have HW:=Lib.hid hBl
 clear CU DK hBl
 refine ⟨_,rfl,?_⟩
 refine hK.out _ _ Bv (fun hHeld => ?_)
 clear hK K Bv
 refine nm 31 ?_
 refine pu 16 6 Zd ?_
 refine BU (by kernel_rfl) ?_
 have HX:=Lib.hid hHeld
 clear hHeld
 have hc0:w9.cell? ⟨w.heap.size,0,none⟩ = some (.int .i64 1):=(AA HX.out 0).trans rfl
 have hc1:w9.cell? ⟨w.heap.size,1,none⟩ = some (.int .u32 mine):=(AA HX.out 1).trans rfl
 have hc2:w9.cell? ⟨w.heap.size,2,none⟩ = some (.int .u32 AL):=(AA HX.out 2).trans rfl
 have hc3:w9.cell? ⟨w.heap.size,3,none⟩ = some (.int .u32 yours):=(AA HX.out 3).trans rfl
 have hc4:w9.cell? ⟨w.heap.size,4,none⟩ = some (.int .u32 seq):=(AA HX.out 4).trans rfl
 have hc5:w9.cell? ⟨w.heap.size,5,none⟩ = some (.int .u32 AX):=(AA HX.out 5).trans rfl
 have hc6:w9.cell? ⟨w.heap.size,6,none⟩ = some (.int .u32 stamp):=(AA HX.out 6).trans rfl
 have Hq:w9.cell? ⟨w.heap.size,7,none⟩ = some (.int .u32 echo):=(AA HX.out 7).trans rfl
 have hc8:w9.cell? ⟨w.heap.size,8,none⟩ = some (.complex .f64 zr zi):=(AA HX.out 8).trans rfl
 have Gv:w9.cell? ⟨w.heap.size,9,none⟩ = some (.slice A body.length c):=(AA HX.out 9).trans rfl
 have hr0:w9.cell? ⟨g,0,none⟩ = some (.bool true):=(AA HB.out 0).trans rfl
 have hr1:w9.cell? ⟨g,1,none⟩ = some (.bool false):=(AA HB.out 1).trans rfl
 have hr2:w9.cell? ⟨g,2,none⟩ = some (.bool false):=(AA HB.out 2).trans rfl
 have hr3:w9.cell? ⟨g,3,none⟩ = some (.bool false):=(AA HB.out 3).trans rfl
 go_wp2_with (first | ((with_reducible refine AV (N:=39) rfl ?_); (refine Kd.Xj (Kd.int .u8) (w0:=w9) w9.heap.size 5 ?hg (N:=39) ?hd (xs:=([IntKind.u8.wrap seq]:List Int)) (inner:=[.int .u8 (IntKind.u8.wrap seq)]) (ok:=fun _ => True) (C9:=fun _ => True) ?hr ?hp (fun _ hk => hk) trivial (Below.refl _ _) (Nat.le_refl _) (by simp) ?_); ((case hd => rfl)); ((case hg => rfl)); ((case hr => first | (go_simp; done) | (go_simp; rfl))); ((case hp => exact (D9.one (show Kd.M (Kd.int .u8) _ _ _ (IntKind.u8.wrap seq) [.int .u8 (IntKind.u8.wrap seq)] from rfl) (D9.none _ _)))); (intro vl w10 hR0 hb _ _); (obtain ⟨A1,c1,hv1,_,jG⟩:=Kd.Hg hR0); (subst hv1); (have qA:=Lib.hid jG); (have Bl:=Kd.Dk HR.out hb); (have Aq:=HW.out.trans (hb.mono HW.out.size)); (clear HR HW hR0 jG hb); (have HR:=Lib.hid Bl); (have HW:=Lib.hid Aq); (clear Bl Aq)) | ((with_reducible refine AV (N:=40) rfl ?_); (refine Kd.EG (h1:=fun _ => rfl) (Value.int .u8) 0 (w0:=w) w.heap.size rfl (.tmp 35) (.tmp 39) 22 5 (.int .u8 0) 1 rfl Try.underlying22 info5 rfl (by decide) v9 _ ([IntKind.u8.wrap seq]) _ _ _ (fun _ => True) rfl rfl (fun _ _ => trivial) HR.out qA.out HW.out HW.out.size (by have:=HL.out; simp [CJ,DU]; try omega) ?_); (intro v11 FO CU hBl _ _); (clear HR HW); (have HR:=Lib.hid CU); (have HW:=Lib.hid hBl); (clear CU hBl)))
 go_ret2
 unfold EH
 exact ⟨_,rfl,HR.out,HW.out⟩
end Go.Proofs.Ytnkkgofpifhoeaa.jF
end
