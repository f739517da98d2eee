/- What the laws of a pair are proved with: links and pairs in memory, what their methods do, what a pair keeps to (part 20). -/
import Derived.Test.YtnkkgofpifhoeaaPF19
import Derived.Laws.StructEq
import Derived.Deep.MidRow
import Derived.Deep.LoopGhost
set_option linter.unusedSimpArgs false
set_option linter.unusedVariables false
set_option maxRecDepth 100000
set_option maxHeartbeats 16000000
section
namespace Go.Proofs.Ytnkkgofpifhoeaa.Pe
open Go.RowKit Go.Proofs.Ytnkkgofpifhoeaa.Base Go.Proofs.Ytnkkgofpifhoeaa.Steps Go.Proofs.Ytnkkgofpifhoeaa.Lk Go.Proofs.Ytnkkgofpifhoeaa.Ch Go.Proofs.Ytnkkgofpifhoeaa.Num Go.Proofs.YtnkkgofpifhoeaaW.PrintWords Go.Proofs.YtnkkgofpifhoeaaW.PrintLast
theorem Uy {w:World} {r clk:Nat} {es:Array MapEntry} (k:Int) (hb:w.heap[r]? = some (.map es clk)) (hks:∀ x ∈ es.toList,MapKept.IsKey (.int .i64) x.key) :
  ∃ w1 es',(∀ ty,(Builtin.delete_ #[125,3] ty #[.map (some r),.int .i64 k]).run Try.prog w = .ok (.tuple #[]) w1) ∧ w1.heap[r]? = some (.map es' clk) ∧ (∀ x ∈ es'.toList,MapKept.IsKey (.int .i64) x.key) ∧ Steps.At r w w1:=by
 have hat:∀ o,Steps.At r w { w with heap:=w.heap.setIfInBounds r o }:=fun o => ⟨rfl,rfl,rfl,by simp,fun j hj => (MapKept.heap_set hb).2 j hj⟩
 rcases MapKept.findNow_spec (IV k) es.toList 0 hks with ⟨h1,_⟩ | ⟨j,e,h1,_,_⟩
 ·refine ⟨{ w with heap:=w.heap.setIfInBounds r (.map es clk) },es,fun ty => ?_,(MapKept.heap_set hb).1,hks,hat _⟩
  simp [Builtin.delete_,run_underlying Try.underlying125,MapKept.run_getObj_map hb,MapKept.run_checkKey Try.underlying3 (IV k),MapKept.run_findKey Try.underlying3 h1,MapKept.run_setObj_map _ hb,Result.andThen]
 ·refine ⟨{ w with heap:=w.heap.setIfInBounds r (.map (es.eraseIdxIfInBounds (0 + j)) clk) },es.eraseIdxIfInBounds (0 + j),fun ty => ?_,(MapKept.heap_set hb).1,fun x hx => ?_,hat _⟩
  ·simp [Builtin.delete_,run_underlying Try.underlying125,MapKept.run_getObj_map hb,MapKept.run_checkKey Try.underlying3 (IV k),MapKept.run_findKey Try.underlying3 h1,MapKept.run_setObj_map _ hb,Result.andThen]
  ·have hs':(es.eraseIdxIfInBounds (0 + j)).toList.Sublist es.toList:=by
    unfold Array.eraseIdxIfInBounds
    split
    ·simp only [Array.toList_eraseIdx]; exact List.eraseIdx_sublist _ _
    ·exact List.Sublist.refl _
   exact hks x (hs'.subset hx)
theorem QV {w:World} {B gc:Nat} {o:Nat → Prop} (h:Iz w B gc o) (node:Int):Calls Try.prog 134 #[.pointer (some ⟨gc,0,none⟩),.int .i64 node] w fun e w' => e = .returned (.tuple #[]) ∧ Iz w' B gc o ∧ Kept w w' o ∧ Below B w w':=by
 obtain ⟨rc,p,q,es,clk,hC,h2,h3,h4,h5,h6,h7,h8,h9⟩:=h
 obtain ⟨w1,es',hdel,hb1,hks,hat⟩:=Uy node hC.map h9
 have hc1:w.cell? ⟨gc,1,none⟩ = some (.map (some rc)):=(AA hC.blk 1).trans rfl
 have jd:=hdel 0
 have hk:Kept w w1 o:=⟨Nat.le_of_eq hat.size.symm,fun i _ hs => hat.block i (fun e => hs (e ▸ h6))⟩
 have HP:=Lib.hid (show Iz w1 B gc o ∧ Kept w w1 o ∧ Below B w w1 from ⟨⟨rc,p,q,es',clk,⟨(hat.block gc hC.ne).trans hC.blk,hb1,hC.ne⟩,h2,h3,h4,h5,h6,h7,h8,hks⟩,hk,hat.below (Below.refl _ _) h8⟩)
 clear hk hat hks hb1 hdel h9 hC h2 h3 h4 h5 h6 h7 h8
 go_enter Try.func134,Try.ntmps134
 go_wp2_with fail
 go_end0
 exact ⟨rfl,HP.out⟩
theorem Sv {w:World} {B gp:Nat} {n:Int} {a:Ad} {own:Nat → Nat → Prop} {X:Ps} {v:Value} (h:BX w B gp n a own X v) (k:Nat) (hk:X.has k):Calls Try.prog 54 #[.pointer (some ⟨gp,0,none⟩),.int .i64 k] w fun e w' => e = .returned (.int .i64 (X.pn k).e.phase) ∧ w = w':=by
 have hc3:w.cell? ⟨gp,3,none⟩ = some (.map (some a.r)):=(AA h.blk 3).trans rfl
 have hl:=h.map.look1 k
 rw [Ps.IX hk] at hl
 unfold ptr at hl
 have hx0:w.cell? ⟨a.gx k,0,none⟩ = some (.pointer (some ⟨a.ge k,0,none⟩)):=(AA (h.pk k hk) 0).trans rfl
 have HE:=Lib.hid (h.e k hk)
 clear h hk
 go_enter Try.func54,Try.ntmps54
 go_wp2_with (go_at_call 29; (have hc:=phase_end HE.out); (with_reducible refine hc.mono ?_); clear hc; rintro e w9 ⟨rfl,rfl⟩)
 all_goals (go_ret; exact ⟨rfl,rfl⟩)
theorem Sz {w:World} {B gp:Nat} {n:Int} {a:Ad} {own:Nat → Nat → Prop} {X:Ps} {v:Value} (h:BX w B gp n a own X v) (k:Nat) (hk:X.has k):Calls Try.prog 55 #[.pointer (some ⟨gp,0,none⟩),.int .i64 k] w fun e w' => e = .returned (.int .i64 (X.pn k).e.queue.length) ∧ w = w':=by
 have hc3:w.cell? ⟨gp,3,none⟩ = some (.map (some a.r)):=(AA h.blk 3).trans rfl
 have hl:=h.map.look1 k
 rw [Ps.IX hk] at hl
 unfold ptr at hl
 have hx0:w.cell? ⟨a.gx k,0,none⟩ = some (.pointer (some ⟨a.ge k,0,none⟩)):=(AA (h.pk k hk) 0).trans rfl
 have HE:=Lib.hid (h.e k hk)
 clear h hk
 go_enter Try.func55,Try.ntmps55
 go_wp2_with (go_at_call 31; (have hc:=QN HE.out); (with_reducible refine hc.mono ?_); clear hc; rintro e w9 ⟨rfl,rfl⟩)
 all_goals (go_ret; exact ⟨rfl,rfl⟩)
theorem QW {w:World} {B gp:Nat} {n:Int} {a:Ad} {own:Nat → Nat → Prop} {X:Ps} {v:Value} (h:BX w B gp n a own X v):Calls Try.prog 53 #[.pointer (some ⟨gp,0,none⟩)] w fun e w' => e = .returned v ∧ BX w' B gp n a own { X with evs:=[] } (.slice none 0 0) ∧ UE.R 99 w' B (own 0) v X.evs ∧ Kept w w' (fun k => k = gp) ∧ Below B w w':=by
 have hc5:w.cell? ⟨gp,5,none⟩ = some v:=(AA h.blk 5).trans rfl
 have hf5:=AB h.blk 5
 obtain ⟨A,c,hv⟩:=Kd.BA h.ev
 have H:=Lib.hid h
 clear h
 subst hv
 go_enter Try.func53,Try.ntmps53
 go_wp2_with fail
 go_ret
 have h:=H.out
 have hA:Steps.At gp w (w.setCell ⟨gp,5,none⟩ (.slice none 0 0)):=Steps.At.set (Steps.At.refl _ _) _ _
 have hk:Kept w (w.setCell ⟨gp,5,none⟩ (.slice none 0 0)) (fun k => k = gp):=⟨Nat.le_of_eq hA.size.symm,fun i _ hs => hA.block i hs⟩
 exact ⟨rfl,h.puts ⟨rfl,rfl,rfl⟩ hA (AQ h.blk 5 _ rfl) (Kd.CZ _ _ _ _ _),Kd.BJ h.ev hk (fun j hj he => h.apart 0 j hj (.inl he)),hk,hA.below (Below.refl _ _) (h.low gp (.inl rfl))⟩
theorem WT:(Try.prog.info? 99).map (fun i => (i.zero,i.size,i.bytes)) = some (some (.agg #[.int .i64 0,.bool false]),2,16):=by kernel_rfl
def Mv (w:World) (B gp:Nat) (n:Int) (a:Ad) (own:Nat → Nat → Prop) (X X':Ps) (w':World):Prop :=
 ∃ own' v',BX w' B gp n a own' X' v' ∧ (∀ i k,own' i k → own i k ∨ w.heap.size ≤ k) ∧ Kept w w' (Al X a gp own) ∧ Below B w w' ∧ X'.me = X.me ∧ X'.nodes = X.nodes
theorem Jc {X X':Ps} {a:Ad} {gp:Nat} {own own':Nat → Nat → Prop} {m:Nat} (hm:X'.me = X.me ∧ X'.nodes = X.nodes) (ho:∀ i k,own' i k → own i k ∨ m ≤ k):∀ k,Al X' a gp own' k → Al X a gp own k ∨ m ≤ k:=fun k hk => by
 rcases hk with hk | ⟨i,hi⟩
 ·refine .inl (.inl ?_)
  unfold Ps.fix Ps.has at hk ⊢
  rwa [hm.1,hm.2] at hk
 ·exact (ho i k hi).imp_left (fun h => .inr ⟨i,h⟩)
theorem Mv.same {w:World} {B gp:Nat} {n:Int} {a:Ad} {own:Nat → Nat → Prop} {X:Ps} {v:Value} (h:BX w B gp n a own X v):Mv w B gp n a own X X w:=⟨own,v,h,fun _ _ h => .inl h,Kept.refl _ _,Below.refl _ _,rfl,rfl⟩
theorem IC {own:Nat → Nat → Prop} {i:Nat} {w w':World}:∀ j k,grow own i w w' j k → own j k ∨ w.heap.size ≤ k:=fun j k h => h.imp_right (fun h => h.2.1)
theorem Mv.turn {w w':World} {B gp:Nat} {n:Int} {a:Ad} {own:Nat → Nat → Prop} {X:Ps} {v:Value} (h:BX w B gp n a own X v) {k:Nat} (hx:X.has k) {L:Lk} (ht:DD w B (own (k + 1)) (a.ge k) L w'):Mv w B gp n a own X (X.CV k L) w' :=
 ⟨_,v,h.turn hx ht,IC,ht.2.1.mono (fun j hj => .inr ⟨_,hj⟩),ht.2.2,rfl,rfl⟩
def Fa (X:Ps) (k:Nat) (up:Bool):Ps:={ X with evs:=X.evs ++ [((k:Int),up)] }
theorem PO {w:World} {B gp:Nat} {n:Int} {a:Ad} {own:Nat → Nat → Prop} {X:Ps} {v:Value} (h:BX w B gp n a own X v) (k:Nat) (up:Bool) (hl:X.evs.length ≤ 1000000):Calls Try.prog 120 #[.pointer (some ⟨gp,0,none⟩),.int .i64 k,.bool up] w fun e w' => e = .returned (.tuple #[]) ∧ Mv w B gp n a own X (Fa X k up) w':=by
 have hc5:w.cell? ⟨gp,5,none⟩ = some v:=(AA h.blk 5).trans rfl
 have H:=Lib.hid h
 have HL:=Lib.hid hl
 obtain ⟨A,c,hv⟩:=Kd.BA h.ev
 have HM:=Lib.hid (show UE.M w B (fun _ => False) ((k:Int),up) [.int .i64 k,.bool up] from ⟨[.int .i64 k],[.bool up],rfl,rfl,rfl⟩)
 subst hv
 clear h hl
 cases up
 all_goals
  go_enter Try.func120,Try.ntmps120
  go_wp2_with (first | ((with_reducible refine AV (N:=15) rfl ?_); (refine Kd.Ej (W:=w) (w0:=w) UE B rfl (.tmp 10) (.tmp 14) 96 99 (.agg #[.int .i64 0,.bool false]) 16 rfl Try.underlying96 WT rfl (by decide) (by decide) _ X.evs _ _ (fun j => own 0 j ∨ w.heap.size ≤ j) (fun _ => False) rfl rfl HM.out (fun _ h => h.elim) (fun _ hj => .inr hj) (Kd.Az H.out.ev (fun _ h => .inl h)) (Below.refl _ _) H.out.hB (by have:=HL.out; omega) ?_); (intro v1 w1 hR1 hb1 hg1 Em); (have hk1:Kept w w1 (own 0):=Kept.Eo hg1 (Kept.refl w _) (fun j hj => .inl (H.out.ev.1 j hj))); (have HN:=Lib.hid (H.out.news hk1 hR1)); (have RZ:=Lib.hid hk1); (have HB1:=Lib.hid hb1); (have hq:=(Ah H.out.blk hk1 (fun hx => H.out.apart 0 _ hx (.inl rfl)))); (have hf5:=AB hq 5); (have qU:w1.cell? ⟨gp,5,none⟩ = some (.slice A X.evs.length c):=(AA hq 5).trans rfl); (have hc4:w1.cell? ⟨gp,4,none⟩ = some (.pointer (some ⟨a.gc,0,none⟩)):=(AA hq 4).trans rfl); (obtain ⟨A1,c1,hv1⟩:=Kd.BA hR1); (rw [List.length_append,List.length_singleton] at hv1); (subst hv1); (clear hk1 hR1 hb1 hg1 Em hq hc5)) | (go_at_call 134; (have hc:=QV HN.out.ch (k:Int)); (with_reducible refine hc.mono ?_); clear hc; rintro e w3 ⟨rfl,YG,hK3,hB3⟩; (have qV:=Lib.hid YG); (have XO:=Lib.hid hK3); (have HB3:=Lib.hid hB3); (clear YG hK3 hB3)))
 ·go_end0
  have hk:=(RZ.out.mono (S':=Al X a gp own) (fun j hj => .inr ⟨0,hj⟩)).setCell (p:=⟨gp,5,none⟩) (.inl (.inl (.inl rfl))) (.slice A1 (X.evs.length + 1) c1)
  refine ⟨rfl,_,_,HN.out.YF XO.out (qV.out.mono (fun _ h => .inl h)),fun i j hj => (IC i j hj).elim (IC i j) (fun h => .inr (Nat.le_trans hk.1 h)),hk.Dp XO.out (fun j hj => (IC 1 j hj).imp_left (fun h => .inr ⟨1,h⟩)),(HB1.out.setCell (p:=⟨gp,5,none⟩) (H.out.low gp (.inl rfl)) _).trans HB3.out,rfl,rfl⟩
 ·go_end0
  exact ⟨rfl,_,_,HN.out,IC,(RZ.out.mono (fun j hj => .inr ⟨0,hj⟩)).setCell (p:=⟨gp,5,none⟩) (.inl (.inl (.inl rfl))) _,HB1.out.setCell (p:=⟨gp,5,none⟩) (H.out.low gp (.inl rfl)) _,rfl,rfl⟩
def OL (X:Ps) (k:Nat):Ps:=(if (X.pn k).e.phase = 2 then Fa X k false else X).CV k (EE (ET (X.pn k).e))
theorem KE (X:Ps) (k:Nat) (L M:Lk):(X.CV k L).CV k M = X.CV k M:=by
 unfold Ps.CV Ps.set
 congr 1
 funext j
 by_cases h:j = k
 ·simp [h]
 ·simp [h]
theorem WU {w:World} {B gp:Nat} {n:Int} {a:Ad} {own:Nat → Nat → Prop} {X:Ps} {v:Value} (h:BX w B gp n a own X v) (k:Nat) (hx:X.has k) (hok:(X.pn k).e.Ok) (hl:X.evs.length ≤ 1000000):Calls Try.prog 93 #[.pointer (some ⟨gp,0,none⟩),.int .i64 k,.pointer (some ⟨a.gx k,0,none⟩)] w fun e w' => e = .returned (.tuple #[]) ∧ Mv w B gp n a own X (OL X k) w':=by
 have hc0:w.cell? ⟨a.gx k,0,none⟩ = some (.pointer (some ⟨a.ge k,0,none⟩)):=(AA (h.pk k hx) 0).trans rfl
 have XR:=Lib.hid (phase_end (h.e k hx))
 have HT:=Lib.hid (PO h k false hl)
 have HS:=Lib.hid (Mv.same h)
 have HX:=Lib.hid hx
 have XT:=Lib.hid hok
 clear h hx hok hl
 have main:∀ (Y:Ps) (w1:World) (L0:Lk),Mv w B gp n a own X Y w1 → (Y.pn k).e = L0 → Y.me = X.me ∧ Y.nodes = X.nodes → ∃ IY v1,BX w1 B gp n a IY Y v1 ∧ Y.has k ∧ w1.cell? ⟨a.gx k,0,none⟩ = some (.pointer (some ⟨a.ge k,0,none⟩)) ∧ Lk.End w1 B (IY (k + 1)) (a.ge k) L0 ∧ B ≤ w1.heap.size ∧ ∀ w2 L,DD w1 B (IY (k + 1)) (a.ge k) L w2 → Mv w B gp n a own X (Y.CV k L) w2:=fun Y w1 L0 hM hp hm => by
  obtain ⟨IY,v1,h1,h2,h3,h4,h5⟩:=hM
  have hy:Y.has k:=by unfold Ps.has; rw [hm.1,hm.2]; exact HX.out
  exact ⟨IY,v1,h1,hy,(AA (h1.pk k hy) 0).trans rfl,hp ▸ h1.e k hy,h1.hB,fun w2 L ht => by
   obtain ⟨MP,v2,g1,g2,g3,g4,g5⟩:=Mv.turn h1 hy ht
   exact ⟨MP,v2,g1,fun i j hj => (g2 i j hj).elim (h2 i j) (fun h => .inr (Nat.le_trans h3.1 h)),h3.Dp g3 (Jc h5 h2),h4.trans g4,g5.1.trans h5.1,g5.2.trans h5.2⟩⟩
 have IJ:=Lib.hid main
 clear main
 by_cases hp:(X.pn k).e.phase = 2
 ·have hq:((X.pn k).e.phase == 2) = true:=by simp [hp]
  have HP:=Lib.hid hp
  clear hp
  go_enter Try.func93,Try.ntmps93
  go_wp2_with (first | (go_at_call 120; (have hc:=HT.out); (with_reducible refine hc.mono ?_); clear hc; rintro e w1 ⟨rfl,hM⟩; (obtain ⟨IY,v1,hP1,hy1,hx1,hE1,hB1,hK1⟩:=IJ.out _ _ (X.pn k).e hM rfl ⟨rfl,rfl⟩); (have dm:=Lib.hid hE1); (have HB1:=Lib.hid hB1); (have RZ:=Lib.hid hK1); (clear hM hP1 hy1 hE1 hB1 hK1)) | (go_at_call 78; (have hc:=MK dm.out); (with_reducible refine hc.mono ?_); clear hc; rintro e w2 ⟨rfl,ht⟩; (obtain ⟨MP,v2,hP2,hy2,hx2,hE2,hB2,hK2⟩:=IJ.out _ _ (ET (X.pn k).e) (RZ.out _ _ ht) (congrArg Pn.e (Ps.Eb _ _ _)) ⟨rfl,rfl⟩); (have HE2:=Lib.hid hE2); (have HB2:=Lib.hid hB2); (have XU:=Lib.hid hK2); (clear ht hP2 hy2 hE2 hB2 hK2)) | (go_at_call 27; (have hc:=JX HE2.out HB2.out (LG XT.out)); (with_reducible refine hc.mono ?_); clear hc; rintro e w3 ⟨rfl,ht⟩; (have HF:=Lib.hid (XU.out _ _ ht)); (clear ht)) | (go_at_call 29; (have hc:=XR.out); (with_reducible refine hc.mono ?_); clear hc; rintro e w9 ⟨rfl,rfl⟩))
  go_end0
  refine ⟨rfl,?_⟩
  have h:=HF.out
  rw [KE] at h
  unfold OL
  rw [if_pos HP.out]
  exact h
 ·have hq:((X.pn k).e.phase == 2) = false:=by simp [hp]
  have HP:=Lib.hid hp
  clear hp
  obtain ⟨IY,v1,hP1,hy1,hx1,hE1,hB1,hK1⟩:=IJ.out X w (X.pn k).e HS.out rfl ⟨rfl,rfl⟩
  have dm:=Lib.hid hE1
  have RZ:=Lib.hid hK1
  clear hP1 hy1 hE1 hB1 hK1
  go_enter Try.func93,Try.ntmps93
  go_wp2_with (first | (go_at_call 78; (have hc:=MK dm.out); (with_reducible refine hc.mono ?_); clear hc; rintro e w2 ⟨rfl,ht⟩; (obtain ⟨MP,v2,hP2,hy2,hx2,hE2,hB2,hK2⟩:=IJ.out _ _ (ET (X.pn k).e) (RZ.out _ _ ht) (congrArg Pn.e (Ps.Eb _ _ _)) ⟨rfl,rfl⟩); (have HE2:=Lib.hid hE2); (have HB2:=Lib.hid hB2); (have XU:=Lib.hid hK2); (clear ht hP2 hy2 hE2 hB2 hK2)) | (go_at_call 27; (have hc:=JX HE2.out HB2.out (LG XT.out)); (with_reducible refine hc.mono ?_); clear hc; rintro e w3 ⟨rfl,ht⟩; (have HF:=Lib.hid (XU.out _ _ ht)); (clear ht)) | (go_at_call 29; (have hc:=XR.out); (with_reducible refine hc.mono ?_); clear hc; rintro e w9 ⟨rfl,rfl⟩))
  go_end0
  refine ⟨rfl,?_⟩
  have h:=HF.out
  rw [KE] at h
  unfold OL
  rw [if_neg HP.out]
  exact h
def Fb (X:Ps) (k:Nat) (body:List Int):Int:=if (X.pn k).e.phase = 2 then (if Dq (X.pn k).e body.length = 113 then 142 else Dq (X.pn k).e body.length) else 141
def Cj (X:Ps) (k:Nat) (body:List Int):Ps:=if (X.pn k).e.phase = 2 then (if Dq (X.pn k).e body.length = 113 then OL X k else X.CV k (D6 (X.pn k).e body)) else X
theorem IZ (X:Ps) (k:Nat):X.CV k (X.pn k).e = X:=by
 unfold Ps.CV Ps.set
 have:(fun j => if j = k then { X.pn k with e:=(X.pn k).e } else X.pn j) = X.pn:=by
  funext j
  by_cases h:j = k
  ·rw [if_pos h,h]
  ·rw [if_neg h]
 rw [this]
theorem Mv.at_ {w w1:World} {B gp:Nat} {n:Int} {a:Ad} {own:Nat → Nat → Prop} {X Y:Ps} (hM:Mv w B gp n a own X Y w1) {k:Nat} (hx:X.has k):∃ IY v1,BX w1 B gp n a IY Y v1 ∧ Y.has k ∧ w1.cell? ⟨a.gx k,0,none⟩ = some (.pointer (some ⟨a.ge k,0,none⟩)) ∧ ∀ Z w2,Mv w1 B gp n a IY Y Z w2 → Mv w B gp n a own X Z w2:=by
 obtain ⟨IY,v1,h1,h2,h3,h4,h5⟩:=hM
 have hy:Y.has k:=by unfold Ps.has; rw [h5.1,h5.2]; exact hx
 exact ⟨IY,v1,h1,hy,(AA (h1.pk k hy) 0).trans rfl,fun Z w2 ht => by
  obtain ⟨MP,v2,g1,g2,g3,g4,g5⟩:=ht
  exact ⟨MP,v2,g1,fun i j hj => (g2 i j hj).elim (h2 i j) (fun h => .inr (Nat.le_trans h3.1 h)),h3.Dp g3 (Jc h5 h2),h4.trans g4,g5.1.trans h5.1,g5.2.trans h5.2⟩⟩
theorem S9 {w:World} {B gp:Nat} {n:Int} {a:Ad} {own:Nat → Nat → Prop} {X:Ps} {v:Value} (h:BX w B gp n a own X v) (k:Int) (hk:¬ (1 ≤ k ∧ k ≤ X.nodes ∧ k ≠ X.me)) (b:Value):Calls Try.prog 51 #[.pointer (some ⟨gp,0,none⟩),.int .i64 k,b] w fun e w' => e = .returned (.int .i64 140) ∧ w = w':=by
 have hc3:w.cell? ⟨gp,3,none⟩ = some (.map (some a.r)):=(AA h.blk 3).trans rfl
 have hl:=h.map.look k
 rw [Ps.Ja hk] at hl
 simp only [ptr,Option.isSome] at hl
 clear h hk
 go_enter Try.func51,Try.ntmps51
 go_wp2_with fail
 all_goals (go_ret; exact ⟨rfl,rfl⟩)
theorem LH {w:World} {B gp:Nat} {n:Int} {a:Ad} {own:Nat → Nat → Prop} {X:Ps} {v:Value} (h:BX w B gp n a own X v) (k:Nat) (hx:X.has k) (hok:(X.pn k).e.Ok) (hl:X.evs.length ≤ 1000000) (body:List Int) (Ab:Option Addr) (cb:Nat) (hC:(Kd.int .u8).C w Ab body.length body) :
  Calls Try.prog 51 #[.pointer (some ⟨gp,0,none⟩),.int .i64 k,.slice Ab body.length cb] w fun e w' => e = .returned (.int .i64 (Fb X k body)) ∧ Mv w B gp n a own X (Cj X k body) w':=by
 have hc3:w.cell? ⟨gp,3,none⟩ = some (.map (some a.r)):=(AA h.blk 3).trans rfl
 have hlk:=h.map.look k
 rw [Ps.IX hx] at hlk
 simp only [ptr,Option.isSome] at hlk
 have hc0:w.cell? ⟨a.gx k,0,none⟩ = some (.pointer (some ⟨a.ge k,0,none⟩)):=(AA (h.pk k hx) 0).trans rfl
 have XR:=Lib.hid (phase_end (h.e k hx))
 have je:=Lib.hid (SV (h.e k hx) h.hB hok body Ab cb hC)
 have H:=Lib.hid h
 have HX:=Lib.hid hx
 have XT:=Lib.hid hok
 have HL:=Lib.hid hl
 generalize hnb:body.length = nb at *
 have VO:=Lib.hid hnb
 clear h hx hok hl hC hnb
 by_cases hp:(X.pn k).e.phase = 2
 ·have hq:((X.pn k).e.phase != 2) = false:=by simp [hp]
  have HP:=Lib.hid hp
  clear hp
  by_cases hs:Dq (X.pn k).e nb = 113
  ·have Iw:(Dq (X.pn k).e nb == 113) = true:=by simp [hs]
   have HS:=Lib.hid hs
   have hsl:D6 (X.pn k).e body = (X.pn k).e:=by unfold D6; rw [VO.out,hs]; rfl
   have jf:=Lib.hid hsl
   clear hs hsl
   go_enter Try.func51,Try.ntmps51
   go_wp2_with (first | (go_at_call 29; (have hc:=XR.out); (with_reducible refine hc.mono ?_); clear hc; rintro e w9 ⟨rfl,rfl⟩) | (go_at_call 30; (have hc:=je.out); (with_reducible refine hc.mono ?_); clear hc; rintro e w2 ⟨rfl,ht⟩; (have HM:=Lib.hid (Mv.turn H.out HX.out ht)); (clear ht); (obtain ⟨IY,v1,hP1,hy1,hx1,hK1⟩:=HM.out.at_ HX.out); (have uK:=Lib.hid hP1); (have RZ:=Lib.hid hK1); (have jg:=WU hP1 k hy1 (by rw [jf.out,IZ]; exact XT.out) HL.out); (have qW:=Lib.hid jg); (clear hP1 hy1 hK1 jg)) | (go_at_call 93; (have hc:=qW.out); (with_reducible refine hc.mono ?_); clear hc; rintro e w3 ⟨rfl,X3⟩; (have qX:=Lib.hid (RZ.out _ _ X3)); (clear X3)))
   go_ret
   unfold Fb Cj
   rw [if_pos HP.out,if_pos HP.out,VO.out,if_pos HS.out,if_pos HS.out]
   have hm:=qX.out
   rw [jf.out,IZ] at hm
   exact ⟨rfl,hm⟩
  ·have Iw:(Dq (X.pn k).e nb == 113) = false:=by simp [hs]
   have HS:=Lib.hid hs
   clear hs
   go_enter Try.func51,Try.ntmps51
   go_wp2_with (first | (go_at_call 29; (have hc:=XR.out); (with_reducible refine hc.mono ?_); clear hc; rintro e w9 ⟨rfl,rfl⟩) | (go_at_call 30; (have hc:=je.out); (with_reducible refine hc.mono ?_); clear hc; rintro e w2 ⟨rfl,ht⟩; (have HM:=Lib.hid (Mv.turn H.out HX.out ht)); (clear ht)))
   go_ret
   unfold Fb Cj
   rw [if_pos HP.out,if_pos HP.out,VO.out,if_neg HS.out,if_neg HS.out]
   exact ⟨rfl,HM.out⟩
 ·have hq:((X.pn k).e.phase != 2) = true:=by simp [hp]
  have HP:=Lib.hid hp
  clear hp
  go_enter Try.func51,Try.ntmps51
  go_wp2_with (go_at_call 29; (have hc:=XR.out); (with_reducible refine hc.mono ?_); clear hc; rintro e w9 ⟨rfl,rfl⟩)
  go_ret
  unfold Fb Cj
  rw [if_neg HP.out,if_neg HP.out]
  exact ⟨rfl,Mv.same H.out⟩
end Go.Proofs.Ytnkkgofpifhoeaa.Pe
end
section
namespace Go.Proofs.Ytnkkgofpifhoeaa.Lk
open Go.RowKit Go.Proofs.Ytnkkgofpifhoeaa.Base Go.Proofs.Ytnkkgofpifhoeaa.Pk Go.Proofs.YtnkkgofpifhoeaaW.PrintWords Go.Proofs.YtnkkgofpifhoeaaW.PrintLast
def IE:BL:=⟨0,0,0,0,0,0,0,0,0,0,[]⟩
theorem TA {w:World} {B:Nat} {XQ:Nat → Prop} {A:Option Addr} {n c:Nat} {ps:List BL} (h:pkt.R 27 w B XQ (.slice A n c) ps) (i:Nat) (hi:i < n) :
  ∃ gx cs,A = some ⟨gx,0,none⟩ ∧ pkt.M w B XQ (ps.getD i IE) cs ∧ w.rangeAt gx (i * 10) cs ∧ cs.length = 10 ∧ n = ps.length:=by
 obtain ⟨hn,hnc,hC⟩:=Kd.Dx h
 obtain ⟨gx,cap,he,_⟩:=Kd.KZ h (by omega)
 injection he with h1 h2 h3
 subst h1
 obtain ⟨cs,hl,hM,hc,_⟩:=Kd.Kq h IE (i:Int) (by omega) (by omega)
 refine ⟨gx,cs,rfl,pkt.CW (fun k hk => hk.1) hM,?_,hl,hn⟩
 intro j u hu
 have:=hc j u hu
 simpa [Vt] using this
def feed (AL:Int) (L:Lk) (ps:List BL):Lk:=ps.foldl (fun L p => (BO L AL p).1) L
def TB (L:Lk):Lk:={ L with out:=[] }
theorem Uz {L:Lk} (h:L.Ok):(TB L).Ok:=⟨h.own,h.phase,h.token,h.AL,h.yours,h.queue,h.rows,h.sent,h.base,h.expected,h.idle,Nat.zero_le _⟩
def MQ (A D:Lk):Lk × Lk:=(feed 1 (TB A) (feed 1 D A.out).out,TB (feed 1 D A.out))
end Go.Proofs.Ytnkkgofpifhoeaa.Lk
end
section
namespace Go.Proofs.Ytnkkgofpifhoeaa.Pe
open Go.Proofs.Ytnkkgofpifhoeaa.Pk Go.RowKit Go.Proofs.Ytnkkgofpifhoeaa.Base Go.Proofs.Ytnkkgofpifhoeaa.Num Go.Proofs.Ytnkkgofpifhoeaa.Pv Go.Proofs.YtnkkgofpifhoeaaW.PrintWords
theorem U0 {p:Lk.BL} (h:Iy p) (A:Option Addr) (c:Nat) (w:World) (hC:(Kd.int .u8).C w A p.body.length p.body) :
  Calls Try.prog 19 #[.agg #[.int .i64 p.kind,.int .u32 p.mine,.int .u32 p.AL,.int .u32 p.yours,.int .u32 p.seq,.int .u32 p.AX,.int .u32 p.stamp,.int .u32 p.echo,.complex .f64 p.zr p.zi,.slice A p.body.length c]] w fun e w' => ∃ v,e = .returned (.tuple #[v,.int .i64 0]) ∧ (Kd.int .u8).R 5 w' w.heap.size (fun _ => True) v (EX p) ∧ Below w.heap.size w w':=by
 have hk:=PI h.good
 have hr:=h.good.YA
 have hl:=h.good.len
 have hc:=h.good.check
 obtain ⟨k,m,bt,y,sq,ak,st,ec,zr,zi,bd⟩:=p
 simp only at hk hl hC hc
 rcases hk with rfl | rfl | rfl | rfl
 ·exact jF.Ri m bt y sq ak st ec zr zi A c bd w hC (by omega) hc hr.zr hr.zi
 ·exact jH.Rj m bt y sq ak st ec zr zi A c bd w hC (by omega) hc hr.zr hr.zi
 ·exact jI.Rk m bt y sq ak st ec zr zi A c bd w hC (by omega) hc hr.zr hr.zi
 ·exact jJ.Rl m bt y sq ak st ec zr zi A c bd w hC (by omega) hc hr.zr hr.zi
def LU:Kd (Int × List Int):=Kd.pair (Kd.int .i64) Lk.bytes
theorem TC {w:World} {base:Nat} {ok:Nat → Prop} {x:Int × List Int} {cs:List Value}:LU.M w base ok x cs ↔ ∃ b,cs = [.int .i64 x.1,b] ∧ (Kd.int .u8).R 5 w base ok b x.2:=by
 constructor
 ·rintro ⟨_,_,rfl,rfl,b,rfl,h⟩
  exact ⟨b,rfl,h⟩
 ·rintro ⟨b,rfl,h⟩
  exact ⟨_,_,rfl,rfl,b,rfl,h⟩
instance (X:Ps) (k:Nat):Decidable (X.has k):=inferInstanceAs (Decidable (_ ∧ _ ∧ _))
def FM (k:Nat) (ps:List Lk.BL):List (Int × List Int):=ps.map fun p => ((k:Int),EX p)
def Cm (X:Ps):Nat → List (Int × List Int)
 | 0 => []
 | i + 1 => Cm X i ++ (if X.has (i + 1) then FM (i + 1) (X.pn (i + 1)).e.out else [])
def Bi (X:Ps):Nat → Ps
 | 0 => X
 | i + 1 => if X.has (i + 1) then (Bi X i).CV (i + 1) { (X.pn (i + 1)).e with out:=[] } else Bi X i
theorem Bo (X:Ps):∀ i,(Bi X i).ticks = X.ticks ∧ (Bi X i).me = X.me ∧ (Bi X i).nodes = X.nodes ∧ (Bi X i).evs = X.evs
 | 0 => ⟨rfl,rfl,rfl,rfl⟩
 | i + 1 => by
  unfold Bi
  split
  ·exact Bo X i
  ·exact Bo X i
theorem Fp (X:Ps):∀ i k,i < k → (Bi X i).pn k = X.pn k
 | 0,_,_ => rfl
 | i + 1,k,h => by
  unfold Bi
  split
  ·unfold Ps.CV
   rw [Ps.Ec _ (by omega)]
   exact Fp X i k (by omega)
  ·exact Fp X i k (by omega)
theorem Fe (X:Ps):∀ i k,k ≤ i → X.has k → (Bi X i).pn k = { X.pn k with e:={ (X.pn k).e with out:=[] } }
 | 0,k,h,hx => by have:=hx.1; omega
 | i + 1,k,h,hx => by
  by_cases hk:k = i + 1
  ·subst hk
   unfold Bi
   rw [if_pos hx]
   unfold Ps.CV
   rw [Ps.Eb,Fp X i _ (by omega)]
  ·unfold Bi
   split
   ·unfold Ps.CV
    rw [Ps.Ec _ hk]
    exact Fe X i k (by omega) hx
   ·exact Fe X i k (by omega) hx
theorem BX.YH {w w':World} {B gp:Nat} {n:Int} {a:Ad} {own:Nat → Nat → Prop} {X:Ps} {v:Value} (h:BX w B gp n a own X v) {k:Nat} (hx:X.has k) {L:Lk.Lk} (ht:Lk.DD w B (own (k + 1)) (a.ge k) L w') (hs:w'.heap.size = w.heap.size):BX w' B gp n a own (X.CV k L) v:=by
 have h1:=h.turn hx ht
 have he:grow own (k + 1) w w' = own:=by
  funext i j
  unfold grow
  exact propext ⟨fun hh => hh.elim id (fun hn => by omega),.inl⟩
 rwa [he] at h1
end Go.Proofs.Ytnkkgofpifhoeaa.Pe
end
section
namespace Go.Proofs.Ytnkkgofpifhoeaa.Pe
open Go.RowKit Go.Proofs.Ytnkkgofpifhoeaa.Base Go.Proofs.Ytnkkgofpifhoeaa.Steps Go.Proofs.Ytnkkgofpifhoeaa.Lk Go.Proofs.YtnkkgofpifhoeaaW.PrintWords Go.Proofs.YtnkkgofpifhoeaaW.PrintLast
theorem U1:(Try.prog.info? 176).map (fun i => (i.zero,i.size,i.bytes)) = some (some (.agg #[.int .i64 0,.slice none 0 0]),2,32):=by kernel_rfl
theorem Fq {X:Ps} (h:∀ k,X.has k → (X.pn k).e.out.length ≤ 1024):∀ i,(Cm X i).length ≤ 1024 * i
 | 0 => Nat.le_refl _
 | i + 1 => by
  have h1:=Fq h i
  unfold Cm
  rw [List.length_append]
  split
  ·rename_i hx
   have h2:=h _ hx
   unfold FM
   rw [List.length_map]
   omega
  ·simp only [List.length_nil]; omega
theorem TD {α:Type} {d:Kd α} {e:Nat} {w w1:World} {b:Nat} {v:Value} {xs:List α} {S:Nat → Prop} (h:d.R e w b (fun _ => True) v xs) (hk:Kept w w1 S) (hS:∀ k,S k → k < b):d.R e w1 b (fun _ => True) v xs :=
 Kd.Az (Kd.BJ (Kd.CG h) hk (fun k hb hs => by have:=hS k hs; have:=hb.2.1; omega)) (fun _ _ => trivial)
structure OW (w:World) (B gp:Nat) (a:Ad) (own:Nat → Nat → Prop) (X:Ps) (v0:Value) (i:Nat) (v:Value) (wr:World):Prop where
 at_:BX wr B gp X.nodes a own (Bi X i) v0
 row:LU.R 176 wr w.heap.size (fun _ => True) v (Cm X i)
 kept:Kept w wr (Al X a gp own)
 below:Below B w wr
structure IW (w w2:World) (X:Ps) (i:Nat) (ps:List BL) (j:Nat) (v:Value) (wr:World):Prop where
 row:LU.R 176 wr w.heap.size (fun _ => True) v (Cm X i ++ FM (i + 1) (ps.take j))
 below:Below w.heap.size w2 wr
theorem IW.kept {w w2 wr:World} {X:Ps} {i j:Nat} {ps:List BL} {v:Value} (h:IW w w2 X i ps j v wr):Kept w2 wr (fun k => w.heap.size ≤ k):=⟨h.below.size,fun k _ hn => h.below.block k (by omega)⟩
theorem Nw {w:World} {B gp:Nat} {a:Ad} {own:Nat → Nat → Prop} {X:Ps} {v0:Value} (h:BX w B gp X.nodes a own X v0) (hn:X.nodes ≤ 64) (hw:∀ k,X.has k → ∀ p ∈ (X.pn k).e.out,Iy p) (ho:∀ k,X.has k → (X.pn k).e.out.length ≤ 1024) :
  Calls Try.prog 58 #[.pointer (some ⟨gp,0,none⟩)] w fun e w' => ∃ v,e = .returned v ∧ OW w B gp a own X v0 X.nodes v w':=by
 have HS:=Lib.hid (show OW w B gp a own X v0 0 (.slice none 0 0) w from ⟨h,Kd.CZ _ _ _ _ _,Kept.refl _ _,Below.refl _ _⟩)
 have hc2:w.cell? ⟨gp,2,none⟩ = some (.int .i64 X.nodes):=(AA h.blk 2).trans rfl
 have HB:=Lib.hid h.hB
 have HW:=Lib.hid hw
 have HO:=Lib.hid ho
 have dw:=Lib.hid h.Ux
 generalize hnn:X.nodes = N at *
 have HN:=Lib.hid hn
 have jh:=Lib.hid hnn
 clear h hw ho hnn
 go_enter Try.func58,Try.ntmps58
 go_wp2_with fail
 go_loopg [17,3] N (fun m q v wr => ∃ i:Nat,m = N - i ∧ i ≤ N ∧ q = .int .i64 (i:Int) ∧ OW w B gp a own X v0 i v wr)
 case atStart => exact ⟨0,rfl,Nat.zero_le _,rfl,HS.out⟩
 case round =>
  obtain ⟨wo,rfl⟩:∃ wo:World,wo = wr:=⟨_,rfl⟩
  obtain ⟨i,hm,hin,rfl,hF⟩:=hrel
  have HM:=Lib.hid hm
  have U2:=Lib.hid hin
  have HF:=Lib.hid hF
  have hnr:=hF.row
  obtain ⟨A0,c0,hv⟩:=Kd.BA hnr
  subst hv
  have hc3:wo.cell? ⟨gp,3,none⟩ = some (.map (some a.r)):=(AA hF.at_.blk 3).trans rfl
  have hlk:=hF.at_.map.look ((i:Int) + 1)
  have hsm:=Bo X i
  clear hm hin hF hnr HS hc2
  by_cases hlt:i < N
  ·have hd:decide ((i:Int) < (N:Int)) = true:=by simp [hlt]
   by_cases hx:X.has (i + 1)
   ·have hy:(Bi X i).has (i + 1):=by unfold Ps.has; rw [hsm.2.1,hsm.2.2.1]; exact hx
    rw [show (Bi X i).at_ a ((i:Int) + 1) = some (a.gx (i + 1)) from Ps.IX hy] at hlk
    simp only [ptr,Option.isSome] at hlk
    have hx0:wo.cell? ⟨a.gx (i + 1),0,none⟩ = some (.pointer (some ⟨a.ge (i + 1),0,none⟩)):=(AA (HF.out.at_.pk _ hy) 0).trans rfl
    have hoe:=Uu (HF.out.at_.e (i + 1) hy)
    rw [Fp X i (i + 1) (by omega)] at hoe
    have qY:=Lib.hid hoe
    have HY:=Lib.hid hy
    have HX:=Lib.hid hx
    clear hoe hy hx hsm
    go_wp2_with (go_at_call 32; (have hc:=qY.out); (with_reducible refine hc.mono ?_); clear hc; rintro e w2 ⟨o,XQ,rfl,ht,hR,hok,hsz⟩; (obtain ⟨A1,c1,ho1⟩:=Kd.BA hR); (subst ho1); (have hkk:Kept wo w2 (fun k => k < w.heap.size):=ht.2.1.mono (fun k hk => dw.out k (.inr ⟨_,hk⟩))); (have HR:=Lib.hid (Kd.Az hR hok)); (have HP2:=Lib.hid (HF.out.at_.YH HY.out ht hsz)); (have HI2:=Lib.hid (show IW w w2 X i (X.pn (i + 1)).e.out 0 (.slice A0 (Cm X i).length c0) w2 from ⟨by rw [List.take_zero]; exact (List.append_nil _).symm ▸ TD HF.out.row hkk (fun _ h => h),Below.refl _ _⟩)); (have XU:=Lib.hid (show Kept w w2 (Al X a gp own) from HF.out.kept.Dp ht.2.1 (fun k hk => .inl (.inr ⟨_,hk⟩)))); (have HB2:=Lib.hid (HF.out.below.trans ht.2.2)); (clear hR hok hsz hkk ht))
    have qZ:=Lib.hid (show (X.pn (i + 1)).e.out.length ≤ 1024 from HO.out _ HX.out)
    have qc:=Lib.hid (HW.out _ HX.out)
    have hnp:=qZ.out
    generalize hps:(X.pn (i + 1)).e.out = ps at *
    have eF:=Lib.hid hps
    clear hps
    generalize hmm:ps.length = mm at *
    have aU:=Lib.hid hmm
    clear hmm hlk hx0
    go_loopg [38,3] mm (fun m q v wr => ∃ j:Nat,m = mm - j ∧ j ≤ mm ∧ q = .int .i64 (j:Int) ∧ IW w w2 X i ps j v wr)
    case atStart => exact ⟨0,rfl,Nat.zero_le _,rfl,HI2.out⟩
    case round =>
     obtain ⟨UF,rfl⟩:∃ UF:World,UF = wr:=⟨_,rfl⟩
     obtain ⟨j,hm,hjn,rfl,hI⟩:=hrel
     have qf:=Lib.hid hm
     have qg:=Lib.hid hjn
     have HI:=Lib.hid hI
     obtain ⟨A3,c3,hv⟩:=Kd.BA hI.row
     generalize hnl:(Cm X i ++ FM (i + 1) (ps.take j)).length = nl at hv
     have jQ:=Lib.hid hnl
     clear hnl
     subst hv
     clear hm hjn hI HI2
     by_cases hjl:j < mm
     ·have hdj:decide ((j:Int) < (mm:Int)) = true:=by simp [hjl]
      have hR2:=Kd.BJ HR.out HI.out.kept (fun k hk hn => by have:=dw.out k (.inr ⟨_,hk⟩); omega)
      obtain ⟨gx,cs,hA1,ji,hrg,hcl,-⟩:=TA hR2 j hjl
      subst hA1
      obtain ⟨b2,hb2,eG⟩:=F6.1 ji
      subst hb2
      obtain ⟨A2,c2,hb3⟩:=Kd.BA eG
      subst hb3
      have hmem:ps.getD j IE ∈ ps:=by rw [List.getD_eq_getElem?_getD,List.getElem?_eq_getElem (by rw [aU.out]; exact hjl)]; exact List.getElem_mem _
      have qh:=Lib.hid (qc.out _ hmem)
      have VK:=Lib.hid (show ps.take (j + 1) = ps.take j ++ [ps.getD j IE] from by rw [List.take_add_one,List.getElem?_eq_getElem (by rw [aU.out]; exact hjl),List.getD_eq_getElem?_getD,List.getElem?_eq_getElem (by rw [aU.out]; exact hjl)]; rfl)
      generalize ps.getD j IE = p at *
      have qi:=Lib.hid hrg
      have VJ:=Lib.hid (Kd.Dx eG).2.2
      have jk:=Lib.hid hjl
      have HLEN:=Lib.hid (show (Cm X i ++ FM (i + 1) (ps.take j)).length ≤ 100000 from by
       have h1:=Fq HO.out i
       have h2:=HN.out
       have h3:=U2.out
       unfold FM
       rw [List.length_append,List.length_map,List.length_take]
       omega)
      clear hR2 ji hrg hcl eG hmem hjl
      have eH:=Lib.hid (show w.heap.size ≤ UF.heap.size from Nat.le_trans XU.out.1 HI.out.below.size)
      have HOWN:=Lib.hid (fun (k:Nat) (hk:some k = (Value.slice A3 nl c3).ownBlock) => (show k < UF.heap.size from by obtain ⟨inner,qj⟩:=Kd.VH HI.out.row; exact Q3 qj k hk.symm))
      have HZ:=Lib.hid (heap_alloc_new UF (.cells #[.int .i64 0,.int .u32 0,.int .u32 0,.int .u32 0,.int .u32 0,.int .u32 0,.int .u32 0,.int .u32 0,.complex .f64 0 0,.slice none 0 0] 27))
      go_wp2_with (first | ((with_reducible refine AV (N:=41) rfl ?_); (refine wpList_load_mid rfl 27 (.tmp 40) rfl gx (j * 10) (by first | rfl | (simp; done)) (cells p (.slice A2 p.body.length c2)) _ qi.out Try.underlying27 rfl (by kernel_rfl) ?_)) | ((with_reducible refine gate_ (.store 27 (.tmp 8) (.tmp 41)) rfl ?_); (refine Ae rfl rfl 27 (.tmp 8) (.tmp 41) rfl UF.heap.size #[.int .i64 p.kind,.int .u32 p.mine,.int .u32 p.AL,.int .u32 p.yours,.int .u32 p.seq,.int .u32 p.AX,.int .u32 p.stamp,.int .u32 p.echo,.complex .f64 p.zr p.zi,.slice A2 p.body.length c2] rfl rfl 27 _ HZ.out (by kernel_rfl) rfl (by kernel_rfl) ?_); (intro w8 hb8 YI); (have WV:=Lib.hid hb8); (have hbl:=(YI.below ((Below.refl UF.heap.size UF).alloc (Nat.le_refl _) _) (Nat.le_refl _))); (have U3:=Lib.hid hbl); (have hce:=U0 qh.out A2 c2 w8 (Kd.BK VJ.out hbl)); (have ql:=Lib.hid hce); (clear hb8 YI hbl hce)) | ((with_reducible refine AV (N:=43) rfl ?_); (refine wpList_load_row rfl 27 (.tmp 8) rfl UF.heap.size (by rfl) 27 #[.int .i64 p.kind,.int .u32 p.mine,.int .u32 p.AL,.int .u32 p.yours,.int .u32 p.seq,.int .u32 p.AX,.int .u32 p.stamp,.int .u32 p.echo,.complex .f64 p.zr p.zi,.slice A2 p.body.length c2] (0,0) _ WV.out Try.underlying27 rfl (by kernel_rfl) ?_)) | (go_at_call 19; (have hc:=ql.out); (with_reducible refine hc.mono ?_); clear hc; rintro e w9 ⟨v9,rfl,CU,ED⟩; (obtain ⟨A9,c9,YJ⟩:=Kd.BA CU); (generalize eP:(EX p).length = n9 at YJ); (clear eP); (subst YJ); (have Bl:=Lib.hid CU); (have Bf:=Lib.hid (U3.out.trans (ED.mono U3.out.size))); (clear CU ED)) | ((with_reducible refine AV (N:=55) rfl ?_); (refine Kd.Ej (W:=w9) (w0:=w2) LU w.heap.size rfl (.tmp 49) (.tmp 54) 103 176 (.agg #[.int .i64 0,.slice none 0 0]) 32 rfl Try.underlying103 U1 rfl (by decide) (by decide) (.slice A3 nl c3) (Cm X i ++ FM (i + 1) (ps.take j)) ((((i + 1:Nat):Int)),EX p) [.int .i64 ((i + 1:Nat):Int),.slice A9 n9 c9] (fun _ => True) (fun k => w8.heap.size ≤ k) rfl rfl (TC.2 ⟨_,rfl,Kd.Gf (Kd.Az (Kd.CG Bl.out) (fun k hk => hk.2.1)) (Nat.le_trans eH.out U3.out.size)⟩) (fun k hk => ⟨trivial,fun he => by have h1:=HOWN.out k he; have h2:=U3.out.size; omega⟩) (fun _ _ => trivial) (Kd.Dk HI.out.row Bf.out) (HI.out.below.trans (Bf.out.mono eH.out)) (Nat.le_trans eH.out Bf.out.size) (by have:=HLEN.out; omega) ?_); (intro v1 w1 hR1 hb1 hg1 Em); (have HI3:=Lib.hid (show IW w w2 X i ps (j + 1) v1 w1 from ⟨(by have h5:=hR1; rw [VK.out]; unfold FM at h5 ⊢; rw [List.map_append,← List.append_assoc]; exact h5),hb1⟩)); (clear hR1 hb1 hg1 Em)))
      go_roundg (mm - (j + 1))
      case measure => have:=qf.out; have:=jk.out; omega
      case rel => exact ⟨j + 1,rfl,by have:=jk.out; omega,by first | rfl | simp,HI3.out⟩
     ·have hdj:decide ((j:Int) < (mm:Int)) = false:=by simp; omega
      have hje:j = mm:=by have:=qg.out; omega
      have hall:ps.take j = ps:=List.take_of_length_le (by rw [hje,aU.out]; exact Nat.le_refl _)
      have HOW:=Lib.hid (show OW w B gp a own X v0 (i + 1) (.slice A3 nl c3) UF from by
       have hal:∀ k,Al ((Bi X i).CV (i + 1) { (X.pn (i + 1)).e with out:=[] }) a gp own k → k < w.heap.size:=fun k hk => (Jc (X:=X) (m:=k + 1) ⟨(Bo X i).2.1,(Bo X i).2.2.1⟩ (fun _ _ h => .inl h) k hk).elim (dw.out k) (fun h => by omega)
       refine ⟨?_,?_,XU.out.Dp HI.out.kept (fun k hk => .inr hk),HB2.out.trans (HI.out.below.mono HB.out)⟩
       ·unfold Bi
        rw [if_pos HX.out]
        exact HP2.out.kept HI.out.kept (fun k hk hs => by have:=hal k hk; omega)
       ·have hr:=HI.out.row
        rw [hall] at hr
        unfold Cm
        rw [if_pos HX.out,eF.out]
        exact hr)
      go_wp2_with fail
      go_roundg (N - (i + 1))
      case measure => have:=HM.out; omega
      case rel => exact ⟨i + 1,rfl,by omega,by first | rfl | simp,HOW.out⟩
   ·have hlk2:(Bi X i).at_ a ((i:Int) + 1) = none:=Ps.Ja (fun hh => hx ⟨by omega,by have:=hsm.2.2.1; omega,by have:=hsm.2.1; omega⟩)
    rw [hlk2] at hlk
    simp only [ptr,Option.isSome] at hlk
    have HX:=Lib.hid hx
    clear hx hsm hlk2
    go_wp2_with fail
    go_roundg (N - (i + 1))
    case measure => have:=HM.out; omega
    case rel =>
     refine ⟨i + 1,rfl,by omega,by first | rfl | simp,?_⟩
     have h:=HF.out
     refine ⟨?_,?_,h.kept,h.below⟩
     ·unfold Bi
      rw [if_neg HX.out]
      exact h.at_
     ·have e:Cm X (i + 1) = Cm X i:=by
       show Cm X i ++ _ = _
       rw [if_neg HX.out,List.append_nil]
      rw [e]
      exact h.row
  ·have hd:decide ((i:Int) < (N:Int)) = false:=by simp; omega
   have hie:i = N:=by have:=U2.out; omega
   go_wp2_with fail
   go_ret
   exact ⟨_,rfl,hie ▸ HF.out⟩
theorem BX.YK {w w':World} {B gp:Nat} {n:Int} {a:Ad} {own:Nat → Nat → Prop} {X:Ps} {v:Value} (h:BX w B gp n a own X v) {k:Nat} (hx:X.has k) {L:Lk} {o':Nat → Prop} (ho:∀ j,o' j → own (k + 1) j ∨ w.heap.size ≤ j ∧ j < w'.heap.size) (hk:Kept w w' (own (k + 1))) (hE:Lk.End w' B o' (a.ge k) L):BX w' B gp n a (fun i j => if i = k + 1 then o' j else own i j) (X.CV k L) v:=by
 have hlt:=h.lt
 have hsz:=hk.1
 have hold:∀ i,i ≠ k + 1 → ∀ j,own i j → (if i = k + 1 then o' j else own i j):=fun i hi j hj => by rw [if_neg hi]; exact hj
 refine ⟨Ah h.blk hk (fun hy => h.apart _ _ hy (.inl rfl)),h.map.kept hk (fun hy => h.apart _ _ hy (.inr (.inl rfl))),fun j hj => ?_,fun j hj => ?_,?_,?_,h.low,h.inj,fun i j hi hf => ?_,fun i j m hi hj => ?_,fun i j hi => ?_⟩
 ·have:=Ah (h.pk j hj) hk (fun hy => h.apart _ _ hy (.inr (.inr ⟨j,hj,rfl⟩)))
  by_cases hjk:j = k
  ·subst hjk; unfold Ps.CV; rw [Ps.Eb]; exact this
  ·unfold Ps.CV; rw [Ps.Ec X hjk]; exact this
 ·by_cases hjk:j = k
  ·subst hjk
   unfold Ps.CV
   rw [Ps.Eb]
   exact hE.mono (fun i hi => by rw [if_pos rfl]; exact hi)
  ·unfold Ps.CV
   rw [Ps.Ec X hjk]
   exact ((h.e j hj).kept hk (fun i hi hy => by have:=h.DY (j + 1) (k + 1) i hi hy; omega)).mono (hold _ (by omega))
 ·exact Kd.Az (Kd.BJ h.ev hk (fun i hi hy => by have:=h.DY 0 (k + 1) i hi hy; omega)) (hold _ (by omega))
 ·have h1:=hx.1
  exact (h.ch.kept hk (fun i hi hy => by have:=h.DY 1 (k + 1) i hi hy; omega)).mono (hold _ (by omega))
 ·by_cases hik:i = k + 1
  ·rw [if_pos hik] at hi
   rcases ho j hi with hj | hj
   ·exact h.apart _ j hj hf
   ·have:=h.MO j hf; omega
  ·rw [if_neg hik] at hi; exact h.apart i j hi hf
 ·by_cases hik:i = k + 1 <;> by_cases hjk:j = k + 1
  ·omega
  ·rw [if_pos hik] at hi; rw [if_neg hjk] at hj
   rcases ho m hi with hm | hm
   ·have:=h.DY _ _ m hm hj; omega
   ·have:=hlt j m hj; omega
  ·rw [if_neg hik] at hi; rw [if_pos hjk] at hj
   rcases ho m hj with hm | hm
   ·have:=h.DY _ _ m hi hm; omega
   ·have:=hlt i m hi; omega
  ·rw [if_neg hik] at hi; rw [if_neg hjk] at hj; exact h.DY i j m hi hj
 ·by_cases hik:i = k + 1
  ·rw [if_pos hik] at hi
   rcases ho j hi with hj | hj
   ·have:=hlt _ j hj; omega
   ·exact hj.2
  ·rw [if_neg hik] at hi; have:=hlt i j hi; omega
def FN (X:Ps) (k:Nat) (b:Bool):Ps:=if b = true then X.set k { X.pn k with quiet:=0 } else X
def IG (X:Ps) (k:Nat) (b:Bool):Ps:=if b = true then Fa X k false else X
def VP (X:Ps) (k:Nat) (b:Bool):Ps:=if b = true then ((Fa X k true).set k { (Fa X k true).pn k with quiet:=0 }).set k { ((Fa X k true).set k { (Fa X k true).pn k with quiet:=0 }).pn k with echo:=0 } else X
def FB (X:Ps) (k:Nat) (AL:Int) (p:BL):Ps :=
 VP (IG (FN (X.CV k (BO (X.pn k).e AL p).1) k (BO (X.pn k).e AL p).2.heard) k (BO (X.pn k).e AL p).2.down) k (BO (X.pn k).e AL p).2.up
end Go.Proofs.Ytnkkgofpifhoeaa.Pe
end
section
namespace Go.Proofs.Ytnkkgofpifhoeaa.Pe
open Go.RowKit Go.Proofs.Ytnkkgofpifhoeaa.Base Go.Proofs.Ytnkkgofpifhoeaa.Steps Go.Proofs.Ytnkkgofpifhoeaa.Lk Go.Proofs.YtnkkgofpifhoeaaW.PrintWords
def upd (own:Nat → Nat → Prop) (c:Nat) (o':Nat → Prop):Nat → Nat → Prop:=fun i j => if i = c then o' j else own i j
structure T0 (w2 W:World) (B gp:Nat) (n:Int) (a:Ad) (own:Nat → Nat → Prop) (X:Ps) (v:Value) (k:Nat) (L:Lk) (vb:Value) (body:List Int) (o' okb:Nat → Prop) (wz:World):Prop where
 at_:BX wz B gp n a (upd own (k + 1) o') (X.CV k L) v
 YL:∀ j,o' j → own (k + 1) j ∨ W.heap.size ≤ j
 row:(Kd.int .u8).R 5 wz B okb vb body
 far:∀ j,okb j → W.heap.size ≤ j ∧ ¬ o' j
 kept:Kept w2 wz (own (k + 1))
 below:Below B w2 wz
 ge:w2.heap.size ≤ W.heap.size
structure TV (w2:World) (B gp:Nat) (n:Int) (a:Ad) (own:Nat → Nat → Prop) (X:Ps) (v:Value) (k:Nat) (L:Lk) (vb:Value) (body:List Int) (g7:Nat) (TE:Array Value) (o' okb:Nat → Prop) (wz:World):Prop where
 at_:BX wz B gp n a (upd own (k + 1) o') (X.CV k L) v
 YL:∀ j,o' j → own (k + 1) j ∨ w2.heap.size ≤ j
 row:(Kd.int .u8).R 5 wz B okb vb body
 far:∀ j,okb j → w2.heap.size ≤ j ∧ ¬ o' j ∧ j ≠ g7
 t7:wz.heap[g7]? = some (.cells TE 56 (0,0))
 n7:w2.heap.size ≤ g7 ∧ ¬ o' g7
 kept:Kept w2 wz (own (k + 1))
 below:Below B w2 wz
section
variable {w2 W w7 w8:World} {B gp:Nat} {n:Int} {a:Ad} {own:Nat → Nat → Prop} {X:Ps} {v:Value} {k g7:Nat} {L:Lk} {vb:Value} {body:List Int} {o' okb:Nat → Prop}
theorem T0.of (h:BX w2 B gp n a own X v) (hx:X.has k) (hW:Below w2.heap.size w2 W) {hd up dn:Bool} {e:Ending} (hT:EW W B (own (k + 1)) (a.ge k) L hd up dn body e w7) :
  ∃ A c,e = .returned (.tuple #[.agg #[.bool hd,.bool up,.bool dn,.slice A body.length c],.int .i64 0]) ∧ ∃ o' okb,T0 w2 W B gp n a own X v k L (.slice A body.length c) body o' okb w7:=by
 obtain ⟨vb,okb,he,hR,hk,hE,hK,hb⟩:=hT
 obtain ⟨A,c,hv⟩:=Kd.BA hR
 subst hv
 refine ⟨A,c,he,_,okb,(h.sub hW).YK hx (o':=fun j => own (k + 1) j ∨ (W.heap.size ≤ j ∧ j < w7.heap.size ∧ ¬ okb j)) (fun j hj => hj.imp_right (fun hh => ⟨hh.1,hh.2.1⟩)) hK hE,fun j hj => hj.imp_right (fun hh => hh.1),hR,fun j hj => ⟨(hk j hj).1,fun hh => ?_⟩,(Kept.of_below hW _).Dp hK (fun j hj => .inl hj),(hW.mono h.hB).trans hb,hW.size⟩
 rcases hh with hh | hh
 ·have h1:=h.lt _ j hh; have h2:=(hk j hj).1; have h3:=hW.size; omega
 ·exact hh.2.2 hj
theorem T0.alloc {TE:Array Value} (h:T0 w2 W B gp n a own X v k L vb body o' okb w7) (hg:w7.heap.size ≤ g7) (hbx:w8.heap[g7]? = some (.cells TE 56 (0,0))) (hb:Below w7.heap.size w7 w8):TV w2 B gp n a own X v k L vb body g7 TE o' (fun j => okb j ∧ j < w7.heap.size) w8:=by
 have hz:=h.kept.1
 have hok:∀ j,o' j → j < w7.heap.size:=fun j hj => h.at_.lt (k + 1) j (by unfold upd; rw [if_pos rfl]; exact hj)
 refine ⟨h.at_.sub hb,fun j hj => (h.YL j hj).imp_right (fun hh => Nat.le_trans h.ge hh),Kd.Az (Kd.Dk (Kd.CG h.row) hb) (fun _ hj => ⟨hj.1,hj.2.2.1⟩),fun j hj => ⟨Nat.le_trans h.ge (h.far j hj.1).1,(h.far j hj.1).2,by omega⟩,hbx,⟨by omega,fun hh => by have:=hok _ hh; omega⟩,h.kept.below hb,h.below.trans (hb.mono h.at_.hB)⟩
theorem T0.ahead {TE:Array Value} (h:T0 w2 W B gp n a own X v k L vb body o' okb w7) (hg:w2.heap.size ≤ g7) (hg2:g7 < W.heap.size) (hno:¬ own (k + 1) g7) (hbx:w7.heap[g7]? = some (.cells TE 56 (0,0))):TV w2 B gp n a own X v k L vb body g7 TE o' okb w7 :=
 ⟨h.at_,fun j hj => (h.YL j hj).imp_right (fun hh => Nat.le_trans h.ge hh),h.row,fun j hj => ⟨Nat.le_trans h.ge (h.far j hj).1,(h.far j hj).2,by have:=(h.far j hj).1; omega⟩,hbx,⟨hg,fun hh => (h.YL _ hh).elim hno (fun h1 => by omega)⟩,h.kept,h.below⟩
end
end Go.Proofs.Ytnkkgofpifhoeaa.Pe
end
