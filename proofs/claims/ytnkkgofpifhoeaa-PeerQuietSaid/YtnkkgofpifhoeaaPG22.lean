/- What the laws of a pair are proved with: links and pairs in memory, what their methods do, what a pair keeps to (part 22). -/
import Derived.Test.YtnkkgofpifhoeaaPG21
import Derived.Deep.LoopGhost
import Derived.Laws.StructEq
import Derived.Deep.MidRow
import Derived.ArgAppend
import Derived.LoopN
set_option linter.unusedSimpArgs false
set_option linter.unusedVariables false
set_option maxRecDepth 100000
set_option maxHeartbeats 16000000
section
namespace Go.Proofs.Ytnkkgofpifhoeaa.Pe
open Go.RowKit Go.Proofs.Ytnkkgofpifhoeaa.Base Go.Proofs.Ytnkkgofpifhoeaa.Steps Go.Proofs.Ytnkkgofpifhoeaa.Lk Go.Proofs.YtnkkgofpifhoeaaW.PrintWords Go.Proofs.YtnkkgofpifhoeaaW.PrintLast
def ZS (w:World) (B gp:Nat) (n:Int) (a:Ad) (own:Nat → Nat → Prop) (X:Ps) (g7 gk:Nat) (r7 rk:Array Value) (vb:Value) (body:List Int) (Y:Ps) (wz:World):Prop :=
 ∃ own' v',BV wz B gp n a own' Y v' ∧ (∀ i k,own' i k → own i k ∨ w.heap.size ≤ k) ∧ Kept w wz (Al X a gp own) ∧ Below B w wz ∧ (Y.me = X.me ∧ Y.nodes = X.nodes) ∧
  (∃ okb,(Kd.int .u8).R 5 wz B okb vb body ∧ ∀ j,okb j → ¬ Al Y a gp own' j) ∧ (wz.heap[g7]? = some (.cells r7 56 (0,0)) ∧ ¬ Al Y a gp own' g7) ∧ (wz.heap[gk]? = some (.cells rk 27 (0,0)) ∧ ¬ Al Y a gp own' gk)
section
variable {w wz w2:World} {B gp:Nat} {n:Int} {a:Ad} {own:Nat → Nat → Prop} {X Y Z:Ps} {g7 gk:Nat} {r7 rk:Array Value} {vb:Value} {body:List Int}
theorem ZS.mv (h:ZS w B gp n a own X g7 gk r7 rk vb body Y wz):Mv w B gp n a own X Y wz:=by
 obtain ⟨own',v',h1,h2,h3,h4,h5,_⟩:=h
 exact ⟨own',v',h1,h2,h3,h4,h5⟩
theorem ZS.of {own':Nat → Nat → Prop} {v':Value} {okb:Nat → Prop} (h1:BV wz B gp n a own' Y v') (h2:∀ i k,own' i k → own i k ∨ w.heap.size ≤ k) (h3:Kept w wz (Al X a gp own)) (h4:Below B w wz) (h5:Y.me = X.me ∧ Y.nodes = X.nodes) (h6:(Kd.int .u8).R 5 wz B okb vb body) (h7:∀ j,okb j → ¬ Al Y a gp own' j) (h8:wz.heap[g7]? = some (.cells r7 56 (0,0)) ∧ ¬ Al Y a gp own' g7) (h9:wz.heap[gk]? = some (.cells rk 27 (0,0)) ∧ ¬ Al Y a gp own' gk)
  (hg:Mv wz B gp n a own' Y Z w2):ZS w B gp n a own X g7 gk r7 rk vb body Z w2:=by
 obtain ⟨KX,v2,g1,g2,g3,g4,g5⟩:=hg
 have hal:∀ j,j < wz.heap.size → ¬ Al Y a gp own' j → ¬ Al Z a gp KX j:=fun j hj hn hz => (JL g5 g2 j hz).elim hn (fun h => by omega)
 refine ⟨KX,v2,g1,fun i k hk => (g2 i k hk).elim (h2 i k) (fun h => .inr (Nat.le_trans h3.1 h)),h3.DT g3 (JL h5 h2),h4.trans g4,⟨g5.1.trans h5.1,g5.2.trans h5.2⟩,⟨fun j => okb j ∧ j < wz.heap.size,Kd.Az (Kd.BI (Kd.CW h6) g3 (fun j hj => h7 j hj.1)) (fun j hj => ⟨hj.1,hj.2.2.1⟩),fun j hj => hal j hj.2 (h7 j hj.1)⟩,⟨Ai h8.1 g3 h8.2,hal g7 (AU h8.1) h8.2⟩,⟨Ai h9.1 g3 h9.2,hal gk (AU h9.1) h9.2⟩⟩
theorem ZS.tell (h:ZS w B gp n a own X g7 gk r7 rk vb body Y wz) (k:Nat) (up:Bool) (hl:Y.evs.length ≤ 1000000):Calls Try.prog 120 #[.pointer (some ⟨gp,0,none⟩),.int .i64 k,.bool up] wz fun e w' => e = .returned (.tuple #[]) ∧ ZS w B gp n a own X g7 gk r7 rk vb body (EO Y k up) w':=by
 obtain ⟨own',v',h1,h2,h3,h4,h5,⟨okb,h6,h7⟩,h8,h9⟩:=h
 exact (Qb h1 k up hl).mono fun e w' hq => ⟨hq.1,ZS.of h1 h2 h3 h4 h5 h6 h7 h8 h9 hq.2⟩
theorem Mv.WJ {own':Nat → Nat → Prop} {v':Value} (h:BV wz B gp n a own' Y v') {k:Nat} (hx:Y.has k) {x:Pn} (he:x.e = (Y.pn k).e) (hA:Steps.At (a.gx k) wz w2) (hb:w2.heap[a.gx k]? = some (.cells (Gy (a.ge k) x) 172 (0,0))):Mv wz B gp n a own' Y (Y.set k x) w2 :=
 ⟨own',v',h.WJ hx he hA hb,fun _ _ h => .inl h,⟨Nat.le_of_eq hA.size.symm,fun i _ hs => hA.block i (fun e => hs (.inl (.inr (.inr ⟨k,hx,e⟩))))⟩,hA.below (Below.refl _ _) (h.low _ (.inr (.inr ⟨k,hx,rfl⟩))),rfl,rfl⟩
theorem ZS.cell (h:ZS w B gp n a own X g7 gk r7 rk vb body Y wz) (j:Nat):wz.cell? ⟨g7,j,none⟩ = r7[j]?:=by
 obtain ⟨own',v',h1,h2,h3,h4,h5,⟨okb,h6,h7⟩,h8,h9⟩:=h
 exact AA h8.1 j
theorem ZS.CB (h:ZS w B gp n a own X g7 gk r7 rk vb body Y wz) (j:Nat):wz.cell? ⟨gk,j,none⟩ = rk[j]?:=by
 obtain ⟨own',v',h1,h2,h3,h4,h5,⟨okb,h6,h7⟩,h8,h9⟩:=h
 exact AA h9.1 j
theorem ZS.row (h:ZS w B gp n a own X g7 gk r7 rk vb body Y wz):∃ okb,(Kd.int .u8).R 5 wz B okb vb body:=by
 obtain ⟨own',v',h1,h2,h3,h4,h5,⟨okb,h6,h7⟩,h8,h9⟩:=h
 exact ⟨okb,h6⟩
theorem ZS.store {ops:Array Oper} {Q:Exit → Act → World → Prop} {rest:List Oper} {o:Oper} {ac:Act} (h:ZS w B gp n a own X g7 gk r7 rk vb body Y wz) {k:Nat} (hx:X.has k) (hgd:o.guard = none) (hN:o.dst = none) (ty:TypeId) (x y:Operand) (ho:o.op = .store ty x y) (j:Nat) (val:Value) (hxv:ac.eval x = .pointer (some ⟨a.gx k,j,none⟩)) (hy:ac.eval y = val) (hv:val.cells = #[val]) (hj:j < 3) (hi:(Try.prog.info? ty).map (·.size) = some 1) (h1:val.oneCell' = true)
  (x':Pn) (hrow:(Gy (a.ge k) (Y.pn k)).setIfInBounds j val = Gy (a.ge k) x') (he:x'.e = (Y.pn k).e) (kk:∀ W',ZS w B gp n a own X g7 gk r7 rk vb body (Y.set k x') W' → wpList Try.prog ops Q rest ac W'):wpList Try.prog ops Q (o :: rest) ac wz:=by
 obtain ⟨own',v',h1',h2,h3,h4,h5,⟨okb,h6,h7⟩,h8,h9⟩:=h
 have hy':Y.has k:=by unfold Ps.has; rw [h5.1,h5.2]; exact hx
 have hb:=h1'.pk k hy'
 refine wpList_plain hgd fun _ hK => Rf.MK ty x y ho (a.gx k) j val hxv hy hv (Rf.Rq hb (show j + 1 ≤ 3 by omega)) hi h1 (hK _ _ ?_)
 rw [hN]
 exact kk _ (ZS.of h1' h2 h3 h4 h5 h6 h7 h8 h9 (Mv.WJ h1' hy' he (Steps.At.set (Steps.At.refl _ _) _ _) (hrow ▸ AQ hb j val rfl)))
theorem ZS.drew (h:ZS w B gp n a own X g7 gk r7 rk vb body Y wz):ZS w B gp n a own X g7 gk r7 rk vb body Y wz.drew:=by
 obtain ⟨own',v',h1,h2,h3,h4,h5,⟨okb,h6,h7⟩,h8,h9⟩:=h
 have hb:Below wz.heap.size wz wz.drew:=Aj (Below.refl _ _)
 exact ZS.of h1 h2 h3 h4 h5 h6 h7 h8 h9 ⟨own',v',h1.sub hb,fun _ _ h => .inl h,Kept.of_below hb _,hb.mono h1.hB,rfl,rfl⟩
theorem ZS.qN (h:ZS w B gp n a own X g7 gk r7 rk vb body Y wz):∃ v',wz.heap[gp]? = some (.cells (mrow Y n a v') 169 (0,0)):=by
 obtain ⟨own',v',h1,_⟩:=h
 exact ⟨v',h1.blk⟩
theorem ZS.qO (h:ZS w B gp n a own X g7 gk r7 rk vb body Y wz):wz.heap[gk]? = some (.cells rk 27 (0,0)):=by
 obtain ⟨own',v',h1,h2,h3,h4,h5,⟨okb,h6,h7⟩,h8,h9⟩:=h
 exact h9.1
theorem ZS.hear (h:ZS w B gp n a own X g7 gk r7 rk vb body Y wz) {k:Nat} (hk:1 ≤ k ∧ k ≤ 64) {u z:Nat} (hu:u < 18446744073709551616) (hv:z < 18446744073709551616) (hpl:Num.Bc u z = true) {t:Int} (ht:0 ≤ t ∧ t ≤ 1048576) :
  Calls Try.prog 23 #[.pointer (some ⟨a.gc,0,none⟩),.int .i64 k,.complex .f64 u z,.int .i64 t] wz fun e w' => e = .returned (.int .i64 0) ∧ ZS w B gp n a own X g7 gk r7 rk vb body Y w':=by
 obtain ⟨own',v',h1,h2,h3,h4,h5,⟨okb,h6,h7⟩,h8,h9⟩:=h
 obtain ⟨rc,p,q,es,clk,hC,hp,hq,hpq,hog,hor,hBg,hBr,hks⟩:=h1.ch
 refine (Ch.Uz B a.gc rc p q u z clk es k t wz hC h1.hB hBg hBr hp hq hpq hks (by omega) (by omega) hu hv hpl ht.1 ht.2).mono fun e w' hz => ?_
 obtain ⟨he,⟨es',PV,cp,cq,hC',hc1,hc2,hc3,lD⟩,hK,hb⟩:=hz
 have hK1:Kept wz w' (own' 1):=hK.mono (fun j hj => hj.elim (fun e => e ▸ hog) (fun e => e ▸ hor))
 have hch:Iq w' B a.gc (fun j => own' 1 j ∨ wz.heap.size ≤ j ∧ j < w'.heap.size):=⟨rc,cp,cq,es',PV,hC',hc2,hc3,hc1,.inl hog,.inl hor,hBg,hBr,lD⟩
 exact ⟨he,ZS.of h1 h2 h3 h4 h5 h6 h7 h8 h9 ⟨_,v',h1.XO hK1 hch,Hf,hK1.mono (fun j hj => .inr ⟨1,hj⟩),hb,rfl,rfl⟩⟩
theorem TV.zs {w4 w9 w10:World} {v:Value} {k:Nat} {L:Lk} {Um r7 rk:Array Value} {o' okb:Nat → Prop} (hP:BV w B gp n a own X v) (hW:Below w.heap.size w w4) (h:TV w4 B gp n a own X v k L vb body g7 Um o' okb w9) (hA:Steps.At g7 w9 w10) (hb:w10.heap[g7]? = some (.cells r7 56 (0,0))) (hk:w9.heap[gk]? = some (.cells rk 27 (0,0))) (hgk:w.heap.size ≤ gk ∧ gk < w4.heap.size):ZS w B gp n a own X g7 gk r7 rk vb body (X.BP k L) w10:=by
 have hz:=hW.size
 have hkk:Kept w9 w10 (fun j => j = g7):=⟨Nat.le_of_eq hA.size.symm,fun i _ hs => hA.block i hs⟩
 have hal:∀ j,Al (X.BP k L) a gp (upd own (k + 1) o') j → j < w.heap.size ∨ o' j:=fun j hj => by
  rcases hj with hj | ⟨i,hi⟩
  ·exact .inl (hP.Nc j hj)
  ·unfold upd at hi
   by_cases hik:i = k + 1
   ·rw [if_pos hik] at hi; exact .inr hi
   ·rw [if_neg hik] at hi; exact .inl (hP.lt i j hi)
 have qP:∀ j,Al (X.BP k L) a gp (upd own (k + 1) o') j → ¬ j = g7:=fun j hj he => by
  subst he
  have h7:=h.n7
  exact (hal j hj).elim (fun h => by omega) h7.2
 have hin:∀ j,o' j → own (k + 1) j ∨ w4.heap.size ≤ j:=h.aU
 refine ⟨_,v,h.at_.kept hkk qP,fun i j hi => ?_,((Kept.of_below hW _).DT h.kept (fun j hj => .inl (.inr ⟨_,hj⟩))).DT hkk (fun j hj => .inr (by have:=h.n7.1; omega)),((hW.mono hP.hB).trans h.below).trans (hA.below (Below.refl _ _) (by have:=h.n7.1; have:=hP.hB; omega)),⟨rfl,rfl⟩,⟨okb,Kd.BI h.row hkk (fun j hj => (h.far j hj).2.2),fun j hj hx => (hal j hx).elim (fun h1 => by have:=(h.far j hj).1; omega) (h.far j hj).2.1⟩,⟨hb,fun hx => qP _ hx rfl⟩,⟨(hA.block gk (by have:=h.n7.1; omega)).trans hk,fun hx => (hal gk hx).elim (fun h1 => by omega) (fun h1 => (hin gk h1).elim (fun h2 => by have:=hP.lt _ _ h2; omega) (fun h2 => by omega))⟩⟩
 unfold upd at hi
 by_cases hik:i = k + 1
 ·rw [if_pos hik] at hi
  subst hik
  exact (hin j hi).imp_right (fun h => by omega)
 ·rw [if_neg hik] at hi
  exact .inl hi
end
end Go.Proofs.Ytnkkgofpifhoeaa.Pe
end
section
namespace Go.Proofs.Ytnkkgofpifhoeaa.Pe
open Go.Proofs.Ytnkkgofpifhoeaa.Lk
def ZL (p:BJ):Prop:=Pk.Bv p.body ∧ (p.kind ≠ 4 → p.zr = 0 ∧ p.zi = 0) ∧ (0 ≤ p.stamp ∧ p.stamp < 4294967296) ∧ (0 ≤ p.echo ∧ p.echo < 4294967296)
theorem u0:(0:Int) ≤ 0 ∧ (0:Int) < 4294967296:=by decide
structure Ex (L:Lk):Prop where
 out:∀ p ∈ L.out,ZL p
 queue:∀ r ∈ L.queue,Pk.Bv r
theorem Iw:Pk.Bv []:=fun c hc => by cases hc
theorem JX.of {p:BJ} (h:p.Good) (hx:ZL p):JX p:=⟨h,hx.1,hx.2.1,hx.2.2.1,hx.2.2.2⟩
theorem GI (L:Lk):ZL (CY L):=⟨Iw,fun _ => ⟨rfl,rfl⟩,u0,u0⟩
theorem Ye (L:Lk):ZL (MC L):=⟨Iw,fun _ => ⟨rfl,rfl⟩,u0,u0⟩
theorem Qc {L:Lk} (h:Ex L) (i:Int):ZL (Gw L i):=by
 refine ⟨?_,fun _ => ⟨rfl,rfl⟩,u0,u0⟩
 show Pk.Bv (L.queue.getD i.toNat [])
 rw [List.getD_eq_getElem?_getD]
 by_cases hi:i.toNat < L.queue.length
 ·rw [List.getElem?_eq_getElem hi]
  exact h.queue _ (List.getElem_mem _)
 ·rw [List.getElem?_eq_none (by omega)]
  exact Iw
theorem Ex.of {L M:Lk} (h:Ex L) (ho:M.out = L.out) (hq:M.queue = L.queue):Ex M:=⟨ho ▸ h.out,hq ▸ h.queue⟩
theorem Ed {L:Lk} (h:Ex L) {p:BJ} (hp:ZL p):Ex (emit_ L p):=by
 unfold emit_
 split
 ·refine ⟨fun q hq => ?_,h.queue⟩
  rcases List.mem_append.1 hq with hq | hq
  ·exact h.out q hq
  ·rw [List.mem_singleton.1 hq]; exact hp
 ·exact h
theorem Yf (o:Int):Ex (newL o):=⟨fun p hp => (by cases hp),fun r hr => (by cases hr)⟩
theorem PX {L M:Lk} (h:Ex L) (ho:M.out = L.out) (hq:M.queue = []):Ex M:=⟨ho ▸ h.out,hq ▸ fun r hr => (by cases hr)⟩
theorem Qd {L:Lk} (h:Ex L):Ex (ET L):=by
 unfold ET
 split
 ·refine Ed ?_ (GI _)
  exact PX h rfl rfl
 ·exact h
theorem Qe {L:Lk} (h:Ex L):Ex (FV L):=PX h rfl rfl
theorem Yg {L:Lk} (h:Ex L):Ex { L with out:=[] }:=⟨fun p hp => (by cases hp),h.queue⟩
theorem PY {L:Lk} (h:Ex L):Ex (EU L):=by
 unfold EU
 refine Ed ?_ (Qc h _)
 exact h.of rfl rfl
theorem U1 (n:Nat) {L:Lk} (h:Ex L):Ex (FW n L):=by
 induction n generalizing L with
 | zero => exact h
 | succ n ih =>
  unfold FW
  split
  ·exact ih (PY h)
  ·exact h
theorem Yh {L:Lk} (h:Ex L) (p:BJ):Ex (MV L p):=by
 unfold MV
 split
 ·exact h.of rfl rfl
 ·exact h
theorem U2 {L:Lk} (h:Ex L) (p:BJ):Ex (UU L p):=by
 have hm:=Yh h p
 unfold UU
 split
 ·exact U1 _ ⟨hm.out,fun r hr => hm.queue r (List.mem_of_mem_drop hr)⟩
 ·exact hm
theorem WT {L:Lk} (h:Ex L) (b:Int) (p:BJ):Ex (BM L b p).1:=by
 unfold BM
 split
 ·exact h
 split
 ·split
  ·split
   ·show Ex (emit_ _ _)
    refine Ed ?_ (GI _)
    exact h.of rfl rfl
   ·show Ex (emit_ _ _)
    refine Ed ?_ (GI _)
    exact h.of rfl rfl
  ·split
   ·show Ex (if p.seq = 0 then emit_ L (CY L) else L)
    split
    ·exact Ed h (GI _)
    ·exact h
   ·split
    ·exact Qe h
    ·show Ex (emit_ _ _)
     refine Ed ?_ (GI _)
     exact PX h rfl rfl
 ·split
  ·show Ex (XM L p)
   unfold XM
   split
   ·exact Ed (U2 h p) (Ye _)
   ·exact U2 h p
  ·exact h
def GX (X:Ps):Prop:=∀ k,X.has k → (X.pn k).e.Fine ∧ Ex (X.pn k).e
theorem GX.wire {X:Ps} (h:GX X):∀ k,X.has k → ∀ p ∈ (X.pn k).e.out,JX p ∧ True:=fun k hk p hp => ⟨JX.of ((h k hk).1.good p hp) ((h k hk).2.out p hp),trivial⟩
theorem GX.len {X:Ps} (h:GX X):∀ k,X.has k → (X.pn k).e.out.length ≤ 1024:=fun k hk => (h k hk).1.ok.out
theorem WU (X:Ps) (k:Nat) (b:Int) (p:BJ) (j:Nat):((EG X k b p).pn j).e = if j = k then (BM (X.pn k).e b p).1 else (X.pn j).e:=by
 have h1:∀ (Y:Ps) (x:Pn) (j:Nat),x.e = (Y.pn k).e → ((Y.set k x).pn j).e = (Y.pn j).e:=fun Y x j hx => by
  by_cases hj:j = k
  ·subst hj; rw [Ps.CU]; exact hx
  ·rw [Ps.EL Y hj]
 unfold EG
 have e0:∀ (Y:Ps) (c:Bool) (st:Int),((Iu Y k c st).pn j).e = (Y.pn j).e:=fun Y c st => by
  unfold Iu
  split
  ·exact h1 _ _ j rfl
  ·rfl
 have e1:∀ (Y:Ps) (c:Bool),((Ul Y k c).pn j).e = (Y.pn j).e:=fun Y c => by
  unfold Ul
  split
  ·refine (h1 _ _ j ?_).trans ((h1 _ _ j ?_).trans ?_)
   ·rfl
   ·rfl
   ·rfl
  ·rfl
 have e2:∀ (Y:Ps) (c:Bool),((Gi Y k c).pn j).e = (Y.pn j).e:=fun Y c => by
  unfold Gi
  split <;> rfl
 have e3:∀ (Y:Ps) (c:Bool),((EM Y k c).pn j).e = (Y.pn j).e:=fun Y c => by
  unfold EM
  split
  ·exact h1 _ _ j rfl
  ·rfl
 rw [e0,e1,e2,e3]
 unfold Ps.BP
 by_cases hj:j = k
 ·subst hj; rw [Ps.CU,if_pos rfl]
 ·rw [Ps.EL X hj,if_neg hj]
theorem J9 (X:Ps) (k:Nat) (b:Int) (p:BJ):(EG X k b p).me = X.me ∧ (EG X k b p).nodes = X.nodes ∧ (EG X k b p).evs.length ≤ X.evs.length + 2:=by
 have e1:∀ (Y:Ps) (c:Bool),(Ul Y k c).me = Y.me ∧ (Ul Y k c).nodes = Y.nodes ∧ (Ul Y k c).evs.length ≤ Y.evs.length + 1:=fun Y c => by
  unfold Ul
  split
  ·exact ⟨rfl,rfl,by simp [EO,Ps.set]⟩
  ·exact ⟨rfl,rfl,by omega⟩
 have e2:∀ (Y:Ps) (c:Bool),(Gi Y k c).me = Y.me ∧ (Gi Y k c).nodes = Y.nodes ∧ (Gi Y k c).evs.length ≤ Y.evs.length + 1:=fun Y c => by
  unfold Gi
  split
  ·exact ⟨rfl,rfl,by simp [EO]⟩
  ·exact ⟨rfl,rfl,by omega⟩
 have e3:∀ (Y:Ps) (c:Bool),(EM Y k c).me = Y.me ∧ (EM Y k c).nodes = Y.nodes ∧ (EM Y k c).evs = Y.evs:=fun Y c => by
  unfold EM
  split <;> exact ⟨rfl,rfl,rfl⟩
 have e0:∀ (Y:Ps) (c:Bool) (st:Int),(Iu Y k c st).me = Y.me ∧ (Iu Y k c st).nodes = Y.nodes ∧ (Iu Y k c st).evs = Y.evs:=fun Y c st => by
  unfold Iu
  split <;> exact ⟨rfl,rfl,rfl⟩
 unfold EG
 have a0:=e0 (Ul (Gi (EM (X.BP k (BM (X.pn k).e b p).1) k (BM (X.pn k).e b p).2.heard) k (BM (X.pn k).e b p).2.down) k (BM (X.pn k).e b p).2.up) ((BM (X.pn k).e b p).2.heard && p.kind == 4) p.stamp
 have a1:=e1 (Gi (EM (X.BP k (BM (X.pn k).e b p).1) k (BM (X.pn k).e b p).2.heard) k (BM (X.pn k).e b p).2.down) (BM (X.pn k).e b p).2.up
 have a2:=e2 (EM (X.BP k (BM (X.pn k).e b p).1) k (BM (X.pn k).e b p).2.heard) (BM (X.pn k).e b p).2.down
 have a3:=e3 (X.BP k (BM (X.pn k).e b p).1) (BM (X.pn k).e b p).2.heard
 have a4:(X.BP k (BM (X.pn k).e b p).1).evs = X.evs:=rfl
 refine ⟨a0.1.trans (a1.1.trans (a2.1.trans a3.1)),a0.2.1.trans (a1.2.1.trans (a2.2.1.trans a3.2.1)),?_⟩
 rw [a0.2.2]
 rw [a3.2.2,a4] at a2
 have:=a1.2.2
 have:=a2.2.2
 omega
theorem GX.take {X:Ps} (h:GX X) (k:Nat) {b:Int} (hb:0 < b ∧ b < 4294967296) {p:BJ} (hp:p.Good):GX (EG X k b p):=fun j hj => by
 have hs:=J9 X k b p
 have hx:X.has j:=by unfold Ps.has at hj ⊢; rwa [hs.1,hs.2.1] at hj
 rw [WU]
 split
 ·rename_i he
  subst he
  exact ⟨Ro (h _ hx).1 hb hp,WT (h _ hx).2 b p⟩
 ·exact h j hx
end Go.Proofs.Ytnkkgofpifhoeaa.Pe
end
section
namespace Go.Proofs.Ytnkkgofpifhoeaa.Lk
open Go.RowKit Go.Proofs.Ytnkkgofpifhoeaa.Base Go.Proofs.Ytnkkgofpifhoeaa.Steps Go.Proofs.Ytnkkgofpifhoeaa.Pk Go.Proofs.YtnkkgofpifhoeaaW.PrintWords Go.Proofs.YtnkkgofpifhoeaaW.PrintLast
def Qg (L:Lk) (st ec:Int) (zr zi:Nat):BJ:=⟨4,L.token,L.AL,L.yours,0,L.expected,st,ec,zr,zi,[]⟩
def Nq (L:Lk) (st ec:Int) (zr zi:Nat):Int:=Ah 4 L.token L.AL L.yours 0 L.expected st ec zr zi 0
def GK (L:Lk) (st ec:Int) (zr zi:Nat):Lk:=if Nq L st ec zr zi = 0 then emit_ L (Qg L st ec zr zi) else L
theorem WV {w:World} {B g:Nat} {Af Ac:Nat → Prop} {L:Lk} {q o:Value} (h:At w B Af Ac g L q o) (hok:L.Ok) (hB:B ≤ w.heap.size) (hp:L.phase = 2) (st ec:Int) (zr zi:Nat) (OH:zr < 18446744073709551616) (hzi:zi < 18446744073709551616) :
  Calls Try.prog 96 #[.pointer (some ⟨g,0,none⟩),.int .u32 st,.int .u32 ec,.complex .f64 zr zi] w fun e w' => (∃ v,e = .returned v) ∧ BL w B Af Ac g (GK L st ec zr zi) q w':=by
 have hl1:w.cell? ⟨g,1,none⟩ = some (.int .i64 L.phase):=(AA h.blk 1).trans rfl
 have Ci:(L.phase != 2) = false:=by simp [hp]
 have hgl:g < w.heap.size:=AU h.blk
 have H0:=Lib.hid h
 have OK:=Lib.hid hok
 have HZ:=Lib.hid (And.intro OH hzi)
 clear h hok hp OH hzi
 go_enter Try.func96,Try.ntmps96
 go_wp2_with fail
 have hSS:w.drew.heap[g]? = some (.cells (row L q o) 131 (0,0)):=H0.out.blk
 have hbd:Below w.heap.size w w.drew:=Aj (Below.refl _ _)
 clear hl1 Ci
 refine Aw (n:=22) (S:=fun w' => w'.heap[g]? = some (.cells (row L q o) 131 (0,0))) (ds:=[21]) vI (by kernel_rfl) rfl rfl (hSS) (fun hHeld => ?_)
 generalize w.drew = w2 at hbd hHeld ⊢
 have JU:=Lib.hid hbd
 clear hbd
 refine pu 0 18 vJ ?_
 refine pu 1 19 vK ?_
 refine pu 2 20 vM ?_
 refine tk 3 21 vN hHeld ?_ (hf:=by intro w' s0; have hc2:w'.cell? ⟨g,2,none⟩ = some (.int .u32 L.token):=(AA s0 2).trans rfl; clear s0; go_simp; with_reducible rfl)
 refine pu 4 22 vO ?_
 refine pu 5 23 vP ?_
 refine pu 6 24 vS ?_
 refine tk 7 25 vT hHeld ?_ (hf:=by intro w' s0; have hc3:w'.cell? ⟨g,3,none⟩ = some (.int .u32 L.AL):=(AA s0 3).trans rfl; clear s0; go_simp; with_reducible rfl)
 refine pu 8 26 vU ?_
 refine pu 9 27 vV ?_
 refine pu 10 28 vW ?_
 refine tk 11 29 vX hHeld ?_ (hf:=by intro w' s0; have hc4:w'.cell? ⟨g,4,none⟩ = some (.int .u32 L.yours):=(AA s0 4).trans rfl; clear s0; go_simp; with_reducible rfl)
 refine pu 12 30 vY ?_
 refine pu 13 31 vZ ?_
 refine pu 14 32 ve ?_
 refine tk 15 33 vk hHeld ?_ (hf:=by intro w' s0; have Hu:w'.cell? ⟨g,9,none⟩ = some (.int .u32 L.expected):=(AA s0 9).trans rfl; clear s0; go_simp; with_reducible rfl)
 refine pu 16 34 vz ?_
 refine pu 17 35 wB ?_
 refine pu 18 36 wC ?_
 refine pu 19 37 wE ?_ (hy:=by intro w'; have DZ:=Try.underlying27; go_simp; rfl)
 refine on 20 (some 9) wF fun K hK => ?_
 refine Dt (by rfl) (N:=9) rfl (cs:=#[.int .i64 0,.int .u32 0,.int .u32 0,.int .u32 0,.int .u32 0,.int .u32 0,.int .u32 0,.int .u32 0,.complex .f64 0 0,.slice none 0 0]) (t:=27) (by first | (go_simp; done) | (go_simp; rfl)) ?_
 intro gk hgk w3 hbx hb3
 have hS3:w3.heap[g]? = some (.cells (row L q o) 131 (0,0)):=(hb3.block _ (AU hHeld)).trans hHeld
 have Zm:=Lib.hid hbx
 have HB3:=Lib.hid (JU.out.trans (hb3.mono JU.out.size))
 have pG:=Lib.hid (show w.heap.size ≤ gk from by have:=JU.out.size; omega)
 clear hbx hb3 hHeld hgk
 refine hK.out _ _ hS3 (fun hHeld => ?_)
 clear hK K hS3
 refine nm 9 ?_
 refine la 21 none wG fun K hK => ?_
 refine Rf.row_step (by rfl) rfl 27 (.tmp 9) (.tmp 37) rfl gk #[.int .i64 4,.int .u32 L.token,.int .u32 L.AL,.int .u32 L.yours,.int .u32 0,.int .u32 L.expected,.int .u32 st,.int .u32 ec,.complex .f64 zr zi,.slice none 0 0] rfl rfl 27 _ Zm.out (by kernel_rfl) rfl (by kernel_rfl) (fun w4 hb4 U3 => ?_)
 have VU:=Lib.hid hb4
 have HB4:=Lib.hid (U3.below HB3.out pG.out)
 clear hb4 U3
 refine hK.out _ _ ?_
 clear hK K
 refine BN (by kernel_rfl) ?_
 obtain ⟨cc,hcc⟩:∃ cc,cc = Nq L st ec zr zi:=⟨_,rfl⟩
 have iT:=Lib.hid hcc
 have zD:=Lib.hid (fun (wz:World) (hz:Below w.heap.size w wz) => BL.from_ (fun k hk => (H0.out.old k (.inl hk)).1) hgl hz hB (BL.same (H0.out.below hz)))
 by_cases h0:cc = 0
 ·have hc0:(cc != 0) = false:=by simp [h0]
  have lF:=Lib.hid h0
  clear hcc h0
  go_wp2_with (first | ((with_reducible refine AV (N:=38) rfl ?_); (refine wpList_load_row rfl 27 (.tmp 9) rfl gk (by rfl) 27 #[.int .i64 4,.int .u32 L.token,.int .u32 L.AL,.int .u32 L.yours,.int .u32 0,.int .u32 L.expected,.int .u32 st,.int .u32 ec,.complex .f64 zr zi,.slice none 0 0] (0,0) _ VU.out Try.underlying27 rfl (by kernel_rfl) ?_)) | (go_at_call 20; (have hc:=check_any 4 L.token L.AL L.yours 0 L.expected st ec zr zi none 0 0 w4 HZ.out.1 HZ.out.2); (with_reducible refine hc.mono ?_); clear hc; rintro e w5 ⟨rfl,hb⟩; (rw [show Ah 4 L.token L.AL L.yours 0 L.expected st ec zr zi 0 = cc from iT.out.symm]); (have qQ:=Lib.hid ((hb.block _ (AU VU.out)).trans VU.out)); (have Hy:=Lib.hid (HB4.out.trans (hb.mono HB4.out.size))); (clear hb)) | ((with_reducible refine AV (N:=44) rfl ?_); (refine wpList_load_row rfl 27 (.tmp 9) rfl gk (by rfl) 27 #[.int .i64 4,.int .u32 L.token,.int .u32 L.AL,.int .u32 L.yours,.int .u32 0,.int .u32 L.expected,.int .u32 st,.int .u32 ec,.complex .f64 zr zi,.slice none 0 0] (0,0) _ qQ.out Try.underlying27 rfl (by kernel_rfl) ?_)) | (go_at_call 80; (have hc:=Ec (Qg L st ec zr zi) (.slice none 0 0) (H0.out.below Hy.out) OK.out (Nat.le_trans hB Hy.out.size) (DI:=fun _ => False) (F5.2 ⟨_,rfl,Kd.Cc _ _ _ _ _⟩) (fun _ hk => hk.elim)); (refine hc.mono ?_); clear hc; rintro e w9 ⟨rfl,hE⟩; (have HE:=Lib.hid (BL.from_ (fun k hk => (H0.out.old k (.inl hk)).1) hgl Hy.out hB hE)); (clear hE)))
  go_ret
  refine ⟨⟨_,rfl⟩,?_⟩
  unfold GK
  rw [if_pos (iT.out ▸ lF.out)]
  exact HE.out
 ·have hc0:(cc != 0) = true:=by simp [h0]
  have lF:=Lib.hid h0
  clear hcc h0
  go_wp2_with (first | ((with_reducible refine AV (N:=38) rfl ?_); (refine wpList_load_row rfl 27 (.tmp 9) rfl gk (by rfl) 27 #[.int .i64 4,.int .u32 L.token,.int .u32 L.AL,.int .u32 L.yours,.int .u32 0,.int .u32 L.expected,.int .u32 st,.int .u32 ec,.complex .f64 zr zi,.slice none 0 0] (0,0) _ VU.out Try.underlying27 rfl (by kernel_rfl) ?_)) | (go_at_call 20; (have hc:=check_any 4 L.token L.AL L.yours 0 L.expected st ec zr zi none 0 0 w4 HZ.out.1 HZ.out.2); (with_reducible refine hc.mono ?_); clear hc; rintro e w5 ⟨rfl,hb⟩; (rw [show Ah 4 L.token L.AL L.yours 0 L.expected st ec zr zi 0 = cc from iT.out.symm]); (have qQ:=Lib.hid ((hb.block _ (AU VU.out)).trans VU.out)); (have Hy:=Lib.hid (HB4.out.trans (hb.mono HB4.out.size))); (clear hb)))
  go_ret
  refine ⟨⟨_,rfl⟩,?_⟩
  unfold GK
  rw [if_neg (fun e => lF.out (iT.out.trans e))]
  exact zD.out _ Hy.out
theorem U4 {w:World} {B g:Nat} {own:Nat → Prop} {L:Lk} (h:End w B own g L) (hok:L.Ok) (hB:B ≤ w.heap.size) (hp:L.phase = 2) (st ec:Int) (zr zi:Nat) (OH:zr < 18446744073709551616) (hzi:zi < 18446744073709551616) :
  Calls Try.prog 96 #[.pointer (some ⟨g,0,none⟩),.int .u32 st,.int .u32 ec,.complex .f64 zr zi] w fun e w' => (∃ v,e = .returned v) ∧ Bg w B own g (GK L st ec zr zi) w':=by
 obtain ⟨_,_,_,_,h,ho⟩:=h
 exact (WV h hok hB hp st ec zr zi OH hzi).mono fun e w' hq => ⟨hq.1,BL.turns ho hq.2⟩
end Go.Proofs.Ytnkkgofpifhoeaa.Lk
end
section
namespace Go.Proofs.Ytnkkgofpifhoeaa.Pe
open Go.Proofs.Ytnkkgofpifhoeaa.Lk
def FM (X:Ps) (k:Nat):Ps:=X.set k { X.pn k with quiet:=(X.pn k).quiet + 1 }
def DD (X:Ps) (k:Nat):Ps:=if (X.pn k).e.phase = 2 then (if (X.pn k).quiet + 1 > 10 then GY (FM X k) k else FM X k) else X
def Em (X:Ps) (k:Nat):Ps:=X.BP k (IG (X.pn k).e)
def Gj (zr zi:Nat) (X:Ps) (k:Nat):Ps:=if (X.pn k).e.phase = 2 then X.BP k (GK (X.pn k).e X.ticks (X.pn k).echo zr zi) else X
def Dx (zr zi:Nat) (X:Ps) (k:Nat):Ps:=Gj zr zi (Em (DD X k) k) k
def Qh (X:Ps):Ps:={ X with ticks:=(X.ticks + 1) % 4294967296 }
def Bh (z:Nat → Nat × Nat) (X:Ps):Nat → Ps
 | 0 => Qh X
 | i + 1 => if X.has (i + 1) then Dx (z (i + 1)).1 (z (i + 1)).2 (Bh z X i) (i + 1) else Bh z X i
theorem Nr {z y:Nat → Nat × Nat} (X:Ps):∀ i,(∀ j,j ≤ i → z j = y j) → Bh z X i = Bh y X i
 | 0,_ => rfl
 | i + 1,h => by
  unfold Bh
  rw [Nr X i (fun j hj => h j (by omega)),h (i + 1) (Nat.le_refl _)]
def Rg (X:Ps):Prop:=(0 ≤ X.ticks ∧ X.ticks < 4294967296) ∧ ∀ k,X.has k → (0 ≤ (X.pn k).quiet ∧ (X.pn k).quiet ≤ 1000000) ∧ (0 ≤ (X.pn k).echo ∧ (X.pn k).echo < 4294967296)
theorem U5 {L:Lk} (h:Ex L) (n:Nat):Ex (sends n L):=by
 induction n with
 | zero => exact h
 | succ n ih =>
  unfold sends
  refine Ed ih ?_
  exact Qc h n
theorem WW {L:Lk} (h:Ex L):Ex (IG L):=by
 have hr:∀ d,Ex (Dk L d):=fun d => h.of rfl rfl
 unfold IG
 split
 ·exact h
 split
 ·exact hr _
 split
 ·exact hr _
 split
 ·exact Ed (hr _) (GI _)
 ·exact U5 (hr _) _
theorem Rw {L:Lk} (h:L.Fine) {st ec:Int} (hs:0 ≤ st ∧ st < 4294967296) (he:0 ≤ ec ∧ ec < 4294967296) {zr zi:Nat} (OH:zr < 18446744073709551616) (hzi:zi < 18446744073709551616) (hc:Nq L st ec zr zi = 0):(Qg L st ec zr zi).Good :=
 ⟨⟨h.ok.token,h.ok.AL,h.ok.yours,(show (0:Int) ≤ 0 ∧ (0:Int) < 4294967296 from by decide),h.ok.expected,OH,hzi⟩,hc,Nat.zero_le _⟩
theorem Rx {L:Lk} (h:L.Fine) {st ec:Int} (hs:0 ≤ st ∧ st < 4294967296) (he:0 ≤ ec ∧ ec < 4294967296) {zr zi:Nat} (OH:zr < 18446744073709551616) (hzi:zi < 18446744073709551616):(GK L st ec zr zi).Fine:=by
 unfold GK
 split
 ·rename_i hc
  exact DY h (Rw h hs he OH hzi hc)
 ·exact h
theorem WX {L:Lk} (h:Ex L) {st ec:Int} (hs:0 ≤ st ∧ st < 4294967296) (he:0 ≤ ec ∧ ec < 4294967296) (zr zi:Nat):Ex (GK L st ec zr zi):=by
 unfold GK
 split
 ·exact Ed h ⟨Iw,fun hk => absurd rfl hk,hs,he⟩
 ·exact h
theorem GX.BP {X:Ps} (h:GX X) (k:Nat) {L:Lk} (hL:X.has k → L.Fine ∧ Ex L):GX (X.BP k L):=fun j hj => by
 have hx:X.has j:=hj
 unfold Ps.BP
 by_cases hjk:j = k
 ·subst hjk; rw [Ps.CU]; exact hL hx
 ·rw [Ps.EL X hjk]; exact h j hx
theorem GX.quiet {X:Ps} (h:GX X) (k:Nat):GX (FM X k):=fun j hj => by
 have hx:X.has j:=hj
 unfold FM
 by_cases hjk:j = k
 ·subst hjk; rw [Ps.CU]; exact h j hx
 ·rw [Ps.EL X hjk]; exact h j hx
theorem GX.cut {X:Ps} (h:GX X) (k:Nat):GX (GY X k):=by
 unfold GY
 have hl:X.has k → (ET (FV (X.pn k).e)).Fine ∧ Ex (ET (FV (X.pn k).e)):=fun hx => ⟨LC (LD (h k hx).1),Qd (Qe (h k hx).2)⟩
 split
 ·exact GX.BP (X:=EO X k false) h k hl
 ·exact h.BP k hl
theorem Ry (X:Ps) (k:Nat):(GY X k).ticks = X.ticks ∧ (GY X k).me = X.me ∧ (GY X k).nodes = X.nodes ∧ ((GY X k).pn k).quiet = (X.pn k).quiet ∧ ((GY X k).pn k).echo = (X.pn k).echo:=by
 unfold GY
 split
 ·exact ⟨rfl,rfl,rfl,by unfold Ps.BP; rw [Ps.CU]; rfl,by unfold Ps.BP; rw [Ps.CU]; rfl⟩
 ·exact ⟨rfl,rfl,rfl,by unfold Ps.BP; rw [Ps.CU],by unfold Ps.BP; rw [Ps.CU]⟩
theorem IX (X:Ps) (k:Nat):(DD X k).ticks = X.ticks ∧ (DD X k).me = X.me ∧ (DD X k).nodes = X.nodes ∧ ((DD X k).pn k).echo = (X.pn k).echo:=by
 have q:((FM X k).pn k).echo = (X.pn k).echo:=by unfold FM; rw [Ps.CU]
 unfold DD
 split
 ·split
  ·have h:=Ry (FM X k) k
   exact ⟨h.1,h.2.1,h.2.2.1,h.2.2.2.2.trans q⟩
  ·exact ⟨rfl,rfl,rfl,q⟩
 ·exact ⟨rfl,rfl,rfl,rfl⟩
theorem PZ (zr zi:Nat) (X:Ps) (k:Nat):(Dx zr zi X k).ticks = X.ticks ∧ (Dx zr zi X k).me = X.me ∧ (Dx zr zi X k).nodes = X.nodes:=by
 have h:=IX X k
 unfold Dx Gj
 split
 ·exact ⟨h.1,h.2.1,h.2.2.1⟩
 ·exact ⟨h.1,h.2.1,h.2.2.1⟩
theorem Gg (z:Nat → Nat × Nat) (X:Ps):∀ i,(Bh z X i).ticks = (X.ticks + 1) % 4294967296 ∧ (Bh z X i).me = X.me ∧ (Bh z X i).nodes = X.nodes
 | 0 => ⟨rfl,rfl,rfl⟩
 | i + 1 => by
  have h:=Gg z X i
  unfold Bh
  split
  ·have h2:=PZ (z (i + 1)).1 (z (i + 1)).2 (Bh z X i) (i + 1)
   exact ⟨h2.1.trans h.1,h2.2.1.trans h.2.1,h2.2.2.trans h.2.2⟩
  ·exact h
theorem Hl (X:Ps) {k j:Nat} (h:j ≠ k) (L:Lk):(X.BP k L).pn j = X.pn j:=Ps.EL X h _
theorem Pg (X:Ps) {k j:Nat} (h:j ≠ k):(GY X k).pn j = X.pn j:=by
 unfold GY
 split
 ·exact Hl (EO X k false) h _
 ·exact Hl X h _
theorem Ns (zr zi:Nat) (X:Ps) {k j:Nat} (h:j ≠ k):(Dx zr zi X k).pn j = X.pn j:=by
 have h1:(DD X k).pn j = X.pn j:=by
  unfold DD
  split
  ·split
   ·exact (Pg _ h).trans (Ps.EL X h _)
   ·exact Ps.EL X h _
  ·rfl
 have h2:(Em (DD X k) k).pn j = X.pn j:=(Hl _ h _).trans h1
 unfold Dx Gj
 split
 ·exact (Hl _ h _).trans h2
 ·exact h2
theorem FX (z:Nat → Nat × Nat) (X:Ps):∀ i j,i < j → (Bh z X i).pn j = X.pn j
 | 0,_,_ => rfl
 | i + 1,j,h => by
  unfold Bh
  split
  ·rw [Ns _ _ _ (by omega)]
   exact FX z X i j (by omega)
  ·exact FX z X i j (by omega)
theorem GX.DD {X:Ps} (h:GX X) (k:Nat):GX (DD X k):=by
 unfold Pe.DD
 split
 ·split
  ·exact (h.quiet k).cut k
  ·exact h.quiet k
 ·exact h
theorem GX.Em {X:Ps} (h:GX X) (k:Nat):GX (Em X k):=h.BP k (fun hx => ⟨Rk (h k hx).1,WW (h k hx).2⟩)
theorem GX.Gj {X:Ps} (h:GX X) (k:Nat) (ht:0 ≤ X.ticks ∧ X.ticks < 4294967296) (he:X.has k → 0 ≤ (X.pn k).echo ∧ (X.pn k).echo < 4294967296) {zr zi:Nat} (OH:zr < 18446744073709551616) (hzi:zi < 18446744073709551616):GX (Gj zr zi X k):=by
 unfold Pe.Gj
 split
 ·exact h.BP k (fun hx => ⟨Rx (h k hx).1 ht (he hx) OH hzi,WX (h k hx).2 ht (he hx) zr zi⟩)
 ·exact h
theorem GX.Dx {X:Ps} (h:GX X) (k:Nat) (ht:0 ≤ X.ticks ∧ X.ticks < 4294967296) (he:X.has k → 0 ≤ (X.pn k).echo ∧ (X.pn k).echo < 4294967296) {zr zi:Nat} (OH:zr < 18446744073709551616) (hzi:zi < 18446744073709551616):GX (Dx zr zi X k):=by
 have h1:=IX X k
 refine ((h.DD k).Em k).Gj k (by show 0 ≤ (Pe.DD X k).ticks ∧ _; rw [show (Pe.Em (Pe.DD X k) k).ticks = (Pe.DD X k).ticks from rfl,h1.1]; exact ht) (fun hx => ?_) OH hzi
 have hx':X.has k:=by
  have hx2:(Pe.DD X k).has k:=hx
  unfold Ps.has at hx2 ⊢
  rwa [h1.2.1,h1.2.2.1] at hx2
 have e:((Pe.Em (Pe.DD X k) k).pn k).echo = (X.pn k).echo:=by
  unfold Pe.Em Ps.BP
  rw [Ps.CU]
  exact h1.2.2.2
 rw [e]
 exact he hx'
theorem GX.Bh {X:Ps} (h:GX X) (hr:Rg X) {z:Nat → Nat × Nat} (hz:∀ j,(z j).1 < 18446744073709551616 ∧ (z j).2 < 18446744073709551616):∀ i,GX (Bh z X i)
 | 0 => h
 | i + 1 => by
  have ih:=GX.Bh h hr hz i
  have hs:=Gg z X i
  unfold Pe.Bh
  split
  ·rename_i hx
   exact ih.Dx (i + 1) (by rw [hs.1]; omega) (fun _ => by rw [FX z X i (i + 1) (by omega)]; exact (hr.2 _ hx).2) (hz _).1 (hz _).2
  ·exact ih
theorem Rz (X:Ps) (k:Nat):(DD X k).evs.length ≤ X.evs.length + 1:=by
 unfold DD
 split
 ·split
  ·unfold GY
   split
   ·show ((FM X k).evs ++ _).length ≤ _
    rw [List.length_append]
    exact Nat.le_refl _
   ·exact Nat.le_succ _
  ·exact Nat.le_succ _
 ·exact Nat.le_succ _
theorem SA (zr zi:Nat) (X:Ps) (k:Nat):(Dx zr zi X k).evs.length ≤ X.evs.length + 1:=by
 have h:=Rz X k
 unfold Dx Gj
 split
 ·exact h
 ·exact h
theorem LJ (z:Nat → Nat × Nat) (X:Ps):∀ i,(Bh z X i).evs.length ≤ X.evs.length + i
 | 0 => Nat.le_refl _
 | i + 1 => by
  have h:=LJ z X i
  unfold Bh
  split
  ·have:=SA (z (i + 1)).1 (z (i + 1)).2 (Bh z X i) (i + 1); omega
  ·omega
end Go.Proofs.Ytnkkgofpifhoeaa.Pe
end
section
namespace Go.Proofs.Ytnkkgofpifhoeaa.Pe
open Go.RowKit Go.Proofs.Ytnkkgofpifhoeaa.Base Go.Proofs.Ytnkkgofpifhoeaa.Steps Go.Proofs.Ytnkkgofpifhoeaa.Lk Go.Proofs.Ytnkkgofpifhoeaa.Ch Go.Proofs.Ytnkkgofpifhoeaa.Num Go.Proofs.Ytnkkgofpifhoeaa.OG Go.Proofs.YtnkkgofpifhoeaaW.PrintWords Go.Proofs.YtnkkgofpifhoeaaW.PrintLast
def fresh (me:Nat) (AL:Int) (i:Nat):Ps:=⟨0,me,i,fun _ => ⟨ET (newL AL),0,0⟩,[]⟩
theorem LK {me i:Nat} {AL:Int} {a:Ad} {gp:Nat} (hm:i + 1 = me):(fresh me AL (i + 1)).has = (fresh me AL i).has:=by
 funext k
 unfold Ps.has fresh
 exact propext ⟨fun h => ⟨h.1,by have:=h.2.1; have:=h.2.2; simp only at *; omega,h.2.2⟩,fun h => ⟨h.1,by have:=h.2.1; simp only at *; omega,h.2.2⟩⟩
theorem BV.pass {w:World} {B gp:Nat} {n:Int} {a:Ad} {own:Nat → Nat → Prop} {v:Value} {me i:Nat} {AL:Int} (h:BV w B gp n a own (fresh me AL i) v) (hm:i + 1 = me):BV w B gp n a own (fresh me AL (i + 1)) v:=by
 have e:=LK (AL:=AL) (a:=a) (gp:=gp) hm
 have ef:∀ k,(fresh me AL (i + 1)).fix a gp k = (fresh me AL i).fix a gp k:=fun k => by unfold Ps.fix; rw [e]
 have ea:(fresh me AL (i + 1)).at_ a = (fresh me AL i).at_ a:=by
  funext k
  unfold Ps.at_ fresh
  by_cases hk:1 ≤ k ∧ k ≤ (i:Int) ∧ k ≠ (me:Int)
  ·rw [if_pos hk,if_pos ⟨hk.1,by have:=hk.2.1; simp only; omega,hk.2.2⟩]
  ·rw [if_neg hk,if_neg (fun hh => hk ⟨hh.1,by have:=hh.2.1; have:=hh.2.2; simp only at *; omega,hh.2.2⟩)]
 refine ⟨h.blk,ea ▸ h.map,fun k hk => h.pk k (e ▸ hk),fun k hk => h.e k (e ▸ hk),h.ev,h.ch,fun k hk => h.low k (ef k ▸ hk),fun i' j hi hj => h.inj i' j (e ▸ hi) (e ▸ hj),fun c k hk hf => h.apart c k hk (ef k ▸ hf),h.Dn,h.lt⟩
theorem BV.add {wr w4 w5:World} {B gp b g:Nat} {n:Int} {a:Ad} {own:Nat → Nat → Prop} {v:Value} {me i:Nat} {AL:Int} {o:Nat → Prop} (h:BV wr B gp n a own (fresh me AL i) v) (hm:i + 1 ≠ me) (hb:Below wr.heap.size wr w4) (hE:Lk.End w4 B o g (ET (newL AL))) (ho:∀ k,o k → wr.heap.size ≤ k ∧ k < w4.heap.size)
  (hx:w4.heap[b]? = some (.cells (Gy g ⟨ET (newL AL),0,0⟩) 172 (0,0))) (hbb:wr.heap.size ≤ b) (hob:¬ o b) (hM:Mp w5 a.r (fun j => if j = ((i + 1:Nat):Int) then some b else (fresh me AL i).at_ a j)) (hA:Steps.At a.r w4 w5) :
  BV w5 B gp n { a with gx:=fun k => if k = i + 1 then b else a.gx k,ge:=fun k => if k = i + 1 then g else a.ge k } (fun c k => own c k ∨ c = i + 2 ∧ o k) (fresh me AL (i + 1)) v:=by
 have h4:=h.sub hb
 have hz:=hb.size
 have hs5:=hA.size
 have hrl:a.r < wr.heap.size:=h.map.lt
 have hk:Kept w4 w5 (fun k => k = a.r):=⟨Nat.le_of_eq hA.size.symm,fun i _ hs => hA.block i hs⟩
 have hne:∀ c k,own c k → ¬ k = a.r:=fun c k hc hk => h.apart c k hc (.inr (.inl hk))
 have hor:∀ k,o k → ¬ k = a.r:=fun k hk he => by have:=ho k hk; omega
 have hhas:∀ k,(fresh me AL (i + 1)).has k → k = i + 1 ∨ (fresh me AL i).has k ∧ k ≠ i + 1:=fun k hk => by
  by_cases hki:k = i + 1
  ·exact .inl hki
  ·exact .inr ⟨⟨hk.1,by have:=hk.2.1; unfold fresh at *; simp only at *; omega,hk.2.2⟩,hki⟩
 have hgx:∀ k,(fresh me AL i).has k → a.gx k < wr.heap.size:=fun k hk => AU (h.pk k hk)
 have hni:¬ (fresh me AL i).has (i + 1):=fun hh => by have:=hh.2.1; unfold fresh at this; simp only at this; omega
 refine ⟨Ai h4.blk hk (fun e => h.YW e),?_,fun k hk' => ?_,fun k hk' => ?_,Kd.Az (Kd.BI h4.ev hk (hne 0)) (fun _ hy => .inl hy),(h4.ch.kept hk (hne 1)).mono (fun _ hy => .inl hy),fun k hk' => ?_,fun k j hk' hj' he => ?_,fun c k hc hf => ?_,fun c d k hc hd => ?_,fun c k hc => ?_⟩
 ·obtain ⟨es,clk,hes,zF⟩:=hM
  refine ⟨es,clk,hes,fun j => ?_⟩
  have e:(fresh me AL (i + 1)).at_ { a with gx:=fun k => if k = i + 1 then b else a.gx k,ge:=fun k => if k = i + 1 then g else a.ge k } j = (if j = ((i + 1:Nat):Int) then some b else (fresh me AL i).at_ a j):=by
   unfold Ps.at_ fresh
   by_cases hj:j = ((i + 1:Nat):Int)
   ·subst hj
    rw [if_pos ⟨by omega,by simp only; omega,by simp only; omega⟩,if_pos rfl]
    simp
   ·rw [if_neg hj]
    by_cases hj2:1 ≤ j ∧ j ≤ (i:Int) ∧ j ≠ (me:Int)
    ·rw [if_pos hj2,if_pos ⟨hj2.1,by have:=hj2.2.1; simp only; omega,hj2.2.2⟩]
     simp only
     rw [if_neg (by omega)]
    ·rw [if_neg hj2,if_neg (fun hh => hj2 ⟨hh.1,by have:=hh.2.1; simp only at *; omega,hh.2.2⟩)]
  rw [e]
  exact zF j
 ·rcases hhas k hk' with rfl | ⟨hk2,hki⟩
  ·simp only [if_pos]
   exact Ai hx hk (fun e => by omega)
  ·simp only [if_neg hki]
   exact Ai (h4.pk k hk2) hk (h.aI hk2)
 ·rcases hhas k hk' with rfl | ⟨hk2,hki⟩
  ·simp only [if_pos]
   exact (hE.kept hk hor).mono (fun j hj => .inr ⟨by first | trivial | rfl,hj⟩)
  ·simp only [if_neg hki]
   exact ((h4.e k hk2).kept hk (hne _)).mono (fun _ hy => .inl hy)
 ·rcases hk' with hk' | hk' | ⟨j,hj,he⟩
  ·exact h.low k (.inl hk')
  ·exact h.low k (.inr (.inl hk'))
  ·rcases hhas j hj with rfl | ⟨hk2,hki⟩
   ·simp only [if_pos] at he
    have:=h.hB
    omega
   ·simp only [if_neg hki] at he
    exact h.low k (.inr (.inr ⟨j,hk2,he⟩))
 ·rcases hhas k hk' with rfl | ⟨hk2,hki⟩ <;> rcases hhas j hj' with rfl | ⟨hj2,hji⟩
  ·rfl
  ·simp only [if_pos,if_neg hji] at he
   have:=hgx j hj2; omega
  ·simp only [if_pos,if_neg hki] at he
   have:=hgx k hk2; omega
  ·simp only [if_neg hki,if_neg hji] at he
   exact h.inj k j hk2 hj2 he
 ·have hfix:(fresh me AL i).fix a gp k ∨ k = b:=by
   rcases hf with hf | hf | ⟨j,hj,he⟩
   ·exact .inl (.inl hf)
   ·exact .inl (.inr (.inl hf))
   ·rcases hhas j hj with rfl | ⟨hk2,hki⟩
    ·simp only [if_pos] at he; exact .inr he
    ·simp only [if_neg hki] at he; exact .inl (.inr (.inr ⟨j,hk2,he⟩))
  rcases hc with hc | ⟨_,hc⟩
  ·exact hfix.elim (h.apart c k hc) (fun e => by have:=h.lt c k hc; omega)
  ·exact hfix.elim (fun hx => by have:=h.Nc k hx; have:=ho k hc; omega) (fun e => hob (e ▸ hc))
 ·rcases hc with hc | ⟨hc1,hc⟩ <;> rcases hd with hd | ⟨hd1,hd⟩
  ·exact h.Dn c d k hc hd
  ·have:=h.lt c k hc; have:=ho k hd; omega
  ·have:=h.lt d k hd; have:=ho k hc; omega
  ·omega
 ·rcases hc with hc | ⟨_,hc⟩
  ·have:=h.lt c k hc; omega
  ·have:=ho k hc; omega
end Go.Proofs.Ytnkkgofpifhoeaa.Pe
end
