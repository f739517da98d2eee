/- What the laws of a pair are proved with: links and pairs in memory, what their methods do, what a pair keeps to (part 24). -/
import Derived.Test.YtnkkgofpifhoeaaPF23
import Derived.Deep.MidRow
import Derived.Deep.LoopGhost
import Derived.ArgAppend
import Derived.LoopN
import Derived.Laws.StructEq
import Derived.Deep.Cut
import Derived.Deep.CutBlock
import Derived.BigQuiet
set_option linter.unusedSimpArgs false
set_option linter.unusedVariables false
set_option maxRecDepth 100000
set_option maxHeartbeats 16000000
namespace Go.Proofs.Ytnkkgofpifhoeaa
theorem kM {p:Prop} (h:p:=by
 clear hnz hlong
 go_wp2_with (first | (go_at_call 51; (have hc:Calls Try.prog 51 #[.pointer (some ⟨ga,0,none⟩),.int .i64 3,.slice Ai nb ci] wr _:=Hz.out); (with_reducible refine Go.Calls.mono hc ?_); clear hc; rintro e ws ⟨rfl,hS5⟩; (have Jj:=Lib.hid hS5); (have NG:=Lib.hid hS5.below); (have hcs:ws.cell? (ad.add i) = some (.slice Ai nb ci):=cell_kept Ph.out (Kept.of_below NG.out (fun _ => False)) (fun h => h)); (clear hS5 hcr)))
 go_roundg (80 + 1 - (i + 1))
 case measure => have:=HM.out; omega
 case rel => exact ⟨i + 1,rfl,by omega,by have:=kN.out.1; omega,by first | rfl | simp,_,_,W,sK.out sN.out,Ym.out ▸ Jj.out⟩):p:=h
end Go.Proofs.Ytnkkgofpifhoeaa
section
namespace Go.Proofs.Ytnkkgofpifhoeaa.Lk
open Go.RowKit Go.Proofs.Ytnkkgofpifhoeaa.Pk
def sq (m:Nat):Int:=IntKind.u32.wrap (4294967293 + (m:Int))
def aS (W:List (List Int)) (m s:Nat) (d:Int) (o:List BL):Lk:=⟨1,2,1,1,1,true,W.drop m,(s:Int),sq m,4294967293,d,o⟩
def bS (m:Nat) (o:List BL):Lk:=⟨1,2,1,1,1,true,[],0,4294967293,sq m,0,o⟩
def dP (W:List (List Int)) (j:Nat):BL:=⟨2,1,1,1,sq j,4294967293,0,0,0,0,W.getD j []⟩
def aP (j:Nat):BL:=⟨3,1,1,1,0,sq j,0,0,0,0,[]⟩
theorem XE (m k:Nat):IntKind.u32.wrap (sq m + IntKind.u32.wrap (k:Int)) = sq (m + k):=by unfold sq; simp only [Gw]; omega
theorem Pj (m k:Nat):IntKind.u32.wrap (sq m + (k:Int)) = sq (m + k):=by unfold sq; simp only [Gw]; omega
theorem XF (m:Nat):IntKind.u32.wrap (sq (m + 1) - sq m) = 1:=by unfold sq; simp only [Gw]; omega
theorem Lc {L:Lk} (h:L.out.length < 1024) (p:BL):emit_ L p = { L with out:=L.out ++ [p] }:=by unfold emit_; rw [if_pos h]
theorem Pm (W:List (List Int)) (m s:Nat) (d:Int) (o:List BL) (i:Nat):H6 (aS W m s d o) (i:Int) = dP W (m + i):=by
 unfold H6 dP aS
 have h:(W.drop m).getD (i:Int).toNat [] = W.getD (m + i) []:=by
  rw [Int.toNat_natCast,List.getD_eq_getElem?_getD,List.getD_eq_getElem?_getD,List.getElem?_drop]
 simp only [h,XE]
theorem Po {W:List (List Int)} {m s:Nat} {d:Int} {o:List BL} (h:¬ (s < W.length - m ∧ s < 8)):BP (aS W m s d o) = aS W m s d o:=by
 unfold BP
 unfold EJ
 refine if_neg ?_
 intro hc
 refine h ⟨?_,?_⟩
 ·have:=hc.1
  have e:(aS W m s d o).queue.length = W.length - m:=List.length_drop
  have e2:(aS W m s d o).sent = (s:Int):=rfl
  rw [e,e2] at this
  omega
 ·have:=hc.2
  have e2:(aS W m s d o).sent = (s:Int):=rfl
  rw [e2] at this
  omega
theorem Ti (n:Nat) {W:List (List Int)} {m s:Nat} {d:Int} {o:List BL} (h:¬ (s < W.length - m ∧ s < 8)):EJ n (aS W m s d o) = aS W m s d o:=by
 cases n with
 | zero => rfl
 | succ n =>
  unfold EJ
  refine if_neg (fun hc => h ⟨?_,?_⟩)
  ·have:=hc.1
   have e:(aS W m s d o).queue.length = W.length - m:=List.length_drop
   have e2:(aS W m s d o).sent = (s:Int):=rfl
   rw [e,e2] at this
   omega
  ·have:=hc.2
   have e2:(aS W m s d o).sent = (s:Int):=rfl
   rw [e2] at this
   omega
theorem Ob {W:List (List Int)} {m s:Nat} {o:List BL} (ho:o.length < 1024):Dl (aS W m s 0 o) = aS W m (s + 1) 0 (o ++ [dP W (m + s)]):=by
 unfold Dl
 rw [show (aS W m s 0 o).sent = (s:Int) from rfl,Pm]
 have e:({ aS W m s 0 o with idle:=if (s:Int) = 0 then 0 else (aS W m s 0 o).idle,sent:=(s:Int) + 1 }:Lk) = aS W m (s + 1) 0 o:=by
  have h1:(if (s:Int) = 0 then (0:Int) else (aS W m s 0 o).idle) = 0:=by split <;> rfl
  rw [h1]
  unfold aS
  simp
 rw [e,Lc (show (aS W m (s + 1) 0 o).out.length < 1024 from ho)]
 rfl
theorem NH {W:List (List Int)} {m s:Nat} {o:List BL} (h1:s < W.length - m) (h2:s < 8) (h3:s + 1 = 8 ∨ s + 1 = W.length - m) (ho:o.length < 1024):BP (aS W m s 0 o) = aS W m (s + 1) 0 (o ++ [dP W (m + s)]):=by
 unfold BP
 unfold EJ
 have e:(aS W m s 0 o).queue.length = W.length - m:=List.length_drop
 have e2:(aS W m s 0 o).sent = (s:Int):=rfl
 rw [if_pos (by rw [e,e2]; omega),Ob ho]
 exact Ti _ (by omega)
def outA (W:List (List Int)) (m k:Nat):List BL:=(List.range k).map (fun i => dP W (m + i))
theorem Jn (W:List (List Int)) (m k:Nat):(outA W m k).length = k:=by simp [outA]
theorem Gm (W:List (List Int)) (m k:Nat):outA W m (k + 1) = outA W m k ++ [dP W (m + k)]:=by simp [outA,List.range_succ]
theorem Qh (W:List (List Int)) (b:List Int) (m k:Nat) (h:m + k ≤ W.length):outA (W ++ [b]) m k = outA W m k:=by
 unfold outA
 refine List.map_congr_left (fun i hi => ?_)
 have:i < k:=List.mem_range.1 hi
 unfold dP
 rw [List.getD_eq_getElem?_getD,List.getD_eq_getElem?_getD,List.getElem?_append_left (by omega)]
def st (W:List (List Int)) (m:Nat):Lk:=aS W m (min 8 (W.length - m)) 0 (outA W m (min 8 (W.length - m)))
theorem Pq {W:List (List Int)} {b:List Int} (hb:¬ (b.length = 0 ∨ 1000 < b.length)) (hW:W.length < 64):D6 (st W 0) b = st (W ++ [b]) 0:=by
 have hE:Dq (st W 0) b.length = 0:=by
  unfold Dq
  rw [if_pos (show (st W 0).phase = 2 from rfl),if_neg hb,if_neg (show ¬ 64 ≤ (st W 0).queue.length from by show ¬ 64 ≤ (W.drop 0).length; simp; omega)]
 unfold D6
 rw [if_pos hE]
 have e:({ st W 0 with queue:=(st W 0).queue ++ [b] }:Lk) = aS (W ++ [b]) 0 (min 8 W.length) 0 (outA (W ++ [b]) 0 (min 8 W.length)):=by
  rw [Qh W b 0 _ (by omega)]
  unfold st aS
  simp
 rw [e]
 unfold st
 simp only [List.length_append,List.length_cons,List.length_nil,Nat.sub_zero]
 by_cases h:W.length < 8
 ·rw [Nat.min_eq_right (by omega),Nat.min_eq_right (by omega)]
  rw [NH (by simp) h (by right; simp) (by rw [Jn]; omega)]
  rw [Gm]
 ·rw [Nat.min_eq_left (by omega),Nat.min_eq_left (by omega)]
  exact Po (by omega)
theorem GV (W:List (List Int)) (n:Nat):Dq (st W 0) n = if n = 0 ∨ 1000 < n then 112 else if 64 ≤ W.length then 113 else 0:=by
 unfold Dq
 rw [if_pos (show (st W 0).phase = 2 from rfl)]
 have:(st W 0).queue.length = W.length:=by show (W.drop 0).length = _; simp
 rw [this]
theorem Oc {W:List (List Int)} {b:List Int} (hb:(b.length = 0 ∨ 1000 < b.length) ∨ 64 ≤ W.length):D6 (st W 0) b = st W 0:=by
 unfold D6
 refine if_neg ?_
 rw [GV]
 by_cases h:b.length = 0 ∨ 1000 < b.length
 ·rw [if_pos h]; decide
 ·rw [if_neg h,if_pos (hb.resolve_left h)]; decide
theorem Yn (k:Nat) (W:List (List Int)) (m s:Nat) (d:Int) (hk:k ≤ 1024):sends k (aS W m s d []) = aS W m s d (outA W m k):=by
 induction k with
 | zero => rfl
 | succ k ih =>
  have h:=ih (by omega)
  unfold sends
  rw [h,Pm,Lc (show (outA W m k).length < 1024 by rw [Jn]; omega),Gm]
  rfl
theorem Tj {W:List (List Int)} {m:Nat} {o:List BL} (ho:o.length < 1024):BO (bS m o) 1 (dP W m) = (bS (m + 1) (o ++ [aP (m + 1)]),⟨true,false,false,W.getD m []⟩):=by
 unfold BO
 have hag:CX (bS m o) 1 (dP W m).mine = 0:=by
  show CX (bS m o) 1 1 = 0
  unfold CX
  rw [if_neg (show ¬ (1:Int) < (bS m o).AL by show ¬ (1:Int) < 1; decide),if_pos (show (1:Int) = (bS m o).AL from rfl),if_neg (show ¬ (1:Int) < (bS m o).yours by show ¬ (1:Int) < 1; decide),if_pos (show (1:Int) = (bS m o).yours from rfl)]
 rw [if_neg (show ¬ ((bS m o).phase = 0 ∨ CX (bS m o) 1 (dP W m).mine = -1) by rw [hag]; show ¬ ((2:Int) = 0 ∨ (0:Int) = -1); decide),
  if_neg (show ¬ (dP W m).kind = 1 by show ¬ (2:Int) = 1; decide),if_pos (show (bS m o).phase = 2 ∧ CX (bS m o) 1 (dP W m).mine = 0 ∧ BQ (bS m o) (dP W m) = true from ⟨rfl,hag,by show decide ((1:Int) = 1 ∧ (1:Int) = 1) = true; decide⟩)]
 have hM:KA (bS m o) (dP W m) = bS (m + 1) o:=by
  unfold KA
  rw [if_pos (show (dP W m).kind = 2 ∧ (dP W m).seq = (bS m o).expected from ⟨rfl,rfl⟩)]
  unfold BB bS
  have:=Pj m 1
  simp only [Int.natCast_one] at this
  simp only [this]
 have hK:LM (bS m o) (dP W m) = 0:=by
  unfold LM
  show (IntKind.u32.wrap (4294967293 - 4294967293)).toNat = 0
  decide
 have hN:QM (bS m o) (dP W m) = bS (m + 1) o:=by
  unfold QM
  rw [hK,if_neg (by omega),hM]
 have hL:UD (bS m o) (dP W m) = bS (m + 1) (o ++ [aP (m + 1)]):=by
  unfold UD
  rw [if_pos (show (dP W m).kind = 2 from rfl),hN,Lc (show (bS (m + 1) o).out.length < 1024 from ho)]
  rfl
 have hBd:aT (bS m o) (dP W m) = W.getD m []:=by
  unfold aT
  rw [if_pos (show (dP W m).kind = 2 ∧ (dP W m).seq = (bS m o).expected from ⟨rfl,rfl⟩)]
  rfl
 rw [hL,hBd]
theorem XG {W:List (List Int)} {m:Nat} {o:List BL} (hm:m < W.length) (ho:o.length < 1024) :
  (BO (aS W m (min 8 (W.length - m)) 0 o) 1 (aP (m + 1))).1 = aS W (m + 1) (min 8 (W.length - (m + 1))) 0 (o ++ if m + 8 < W.length then [dP W (m + 8)] else []):=by
 generalize hs:min 8 (W.length - m) = s
 unfold BO
 have hag:CX (aS W m s 0 o) 1 (aP (m + 1)).mine = 0:=by
  show CX (aS W m s 0 o) 1 1 = 0
  unfold CX
  rw [if_neg (show ¬ (1:Int) < (aS W m s 0 o).AL by show ¬ (1:Int) < 1; decide),if_pos (show (1:Int) = (aS W m s 0 o).AL from rfl),if_neg (show ¬ (1:Int) < (aS W m s 0 o).yours by show ¬ (1:Int) < 1; decide),if_pos (show (1:Int) = (aS W m s 0 o).yours from rfl)]
 rw [if_neg (show ¬ ((aS W m s 0 o).phase = 0 ∨ CX (aS W m s 0 o) 1 (aP (m + 1)).mine = -1) by rw [hag]; show ¬ ((2:Int) = 0 ∨ (0:Int) = -1); decide),
  if_neg (show ¬ (aP (m + 1)).kind = 1 by show ¬ (3:Int) = 1; decide),if_pos (show (aS W m s 0 o).phase = 2 ∧ CX (aS W m s 0 o) 1 (aP (m + 1)).mine = 0 ∧ BQ (aS W m s 0 o) (aP (m + 1)) = true from ⟨rfl,hag,by show decide ((1:Int) = 1 ∧ (1:Int) = 1) = true; decide⟩)]
 show UD (aS W m s 0 o) (aP (m + 1)) = _
 have hM:KA (aS W m s 0 o) (aP (m + 1)) = aS W m s 0 o:=by
  unfold KA
  rw [if_neg (show ¬ ((aP (m + 1)).kind = 2 ∧ _) from fun x => by have:(3:Int) = 2:=x.1; exact absurd this (by decide))]
 have hK:LM (aS W m s 0 o) (aP (m + 1)) = 1:=by
  unfold LM
  show (IntKind.u32.wrap (sq (m + 1) - sq m)).toNat = 1
  rw [XF]
  rfl
 have hC:Cb (aS W m s 0 o) 1 = aS W (m + 1) (s - 1) 0 o:=by
  unfold Cb aS
  have h1:=Pj m 1
  have h2:((s:Int) - (1:Nat)) = ((s - 1:Nat):Int):=by omega
  simp only [h1,h2,List.drop_drop]
 unfold UD
 rw [if_neg (show ¬ (aP (m + 1)).kind = 2 by show ¬ (3:Int) = 2; decide)]
 unfold QM
 rw [hK,hM,if_pos (show 1 ≤ 1 ∧ ((1:Nat):Int) ≤ (aS W m s 0 o).sent from ⟨Nat.le_refl _,by show ((1:Nat):Int) ≤ (s:Int); omega⟩),hC]
 by_cases h8:m + 8 < W.length
 ·rw [if_pos h8]
  have e1:s - 1 = 7:=by omega
  have e2:min 8 (W.length - (m + 1)) = 8:=by omega
  rw [e1,e2,NH (by omega) (by omega) (by omega) ho,show m + 1 + 7 = m + 8 by omega]
 ·rw [if_neg h8,List.append_nil]
  have e2:min 8 (W.length - (m + 1)) = s - 1:=by omega
  rw [e2]
  exact Po (by omega)
def Ld (m k:Nat):List BL:=(List.range k).map (fun i => aP (m + 1 + i))
theorem KP (m k:Nat):Ld m (k + 1) = Ld m k ++ [aP (m + 1 + k)]:=by simp [Ld,List.range_succ]
theorem Tm (m k:Nat):(Ld m k).length = k:=by simp [Ld]
theorem Io (b:Int) (L:Lk) (ps qs:List BL):feed b L (ps ++ qs) = feed b (feed b L ps) qs:=by unfold feed; rw [List.foldl_append]
theorem NI (b:Int) (L:Lk) (p:BL):feed b L [p] = (BO L b p).1:=rfl
theorem XH (W:List (List Int)) (m k:Nat) (hk:k ≤ 1024):feed 1 (bS m []) (outA W m k) = bS (m + k) (Ld m k):=by
 induction k with
 | zero => rfl
 | succ k ih =>
  rw [Gm,Io,ih (by omega),NI,Tj (by rw [Tm]; omega),KP,show m + k + 1 = m + 1 + k by omega,show m + (k + 1) = m + 1 + k by omega]
theorem XI (W:List (List Int)) (m j:Nat) (hj:j ≤ min 8 (W.length - m)):feed 1 (aS W m (min 8 (W.length - m)) 0 []) (Ld m j) = aS W (m + j) (min 8 (W.length - (m + j))) 0 (outA W (m + 8) (min j (W.length - (m + 8)))):=by
 induction j with
 | zero => rw [Nat.zero_min]; rfl
 | succ j ih =>
  rw [KP,Io,ih (by omega),NI,show m + 1 + j = m + j + 1 by omega,XG (by omega) (by rw [Jn]; omega)]
  by_cases h:m + j + 8 < W.length
  ·rw [if_pos h,show m + j + 8 = m + 8 + j by omega,show min j (W.length - (m + 8)) = j by omega,← Gm,show min (j + 1) (W.length - (m + 8)) = j + 1 by omega]
   rfl
  ·rw [if_neg h,List.append_nil,show min j (W.length - (m + 8)) = min (j + 1) (W.length - (m + 8)) by omega]
   rfl
theorem Tn (W:List (List Int)) (m:Nat):MQ (st W m) (bS m []) = (st W (m + min 8 (W.length - m)),bS (m + min 8 (W.length - m)) []):=by
 generalize hs:min 8 (W.length - m) = s
 have h1:(st W m).out = outA W m s:=by subst hs; rfl
 have h2:TB (st W m) = aS W m (min 8 (W.length - m)) 0 []:=rfl
 unfold MQ
 rw [h1,XH W m s (by omega),h2]
 have h3:(bS (m + s) (Ld m s)).out = Ld m s:=rfl
 rw [h3,XI W m s (by omega)]
 have h4:outA W (m + 8) (min s (W.length - (m + 8))) = outA W (m + s) (min 8 (W.length - (m + s))):=by
  by_cases h:s = 8
  ·subst h; rfl
  ·rw [show min s (W.length - (m + 8)) = 0 by omega,show min 8 (W.length - (m + s)) = 0 by omega]
   rfl
 rw [h4]
 rfl
def pos (n i:Nat):Nat:=min (8 * i) n
theorem Tq (n i:Nat):pos n (i + 1) = pos n i + min 8 (n - pos n i):=by unfold pos; omega
end Go.Proofs.Ytnkkgofpifhoeaa.Lk
end
section
namespace Go.Proofs.Ytnkkgofpifhoeaa.Pe
open Go.Proofs.Ytnkkgofpifhoeaa.Lk
def Oe (D:Lk):List BL → List (List Int)
 | [] => []
 | p :: ps => (if (BO D 1 p).2.body.length = 0 then [] else [(BO D 1 p).2.body]) ++ Oe (BO D 1 p).1 ps
theorem Og (X:Ps) (i:Nat) (p:BL):((FB X i 1 p).pn i).e = (BO (X.pn i).e 1 p).1:=by rw [PT,if_pos rfl]
theorem VT (i:Nat) (ps:List BL) (s:Ps × List (List Int)):((Ee i s ps).1.pn i).e = feed 1 (s.1.pn i).e ps ∧ (Ee i s ps).2 = s.2 ++ Oe (s.1.pn i).e ps:=by
 induction ps generalizing s with
 | nil => exact ⟨rfl,(List.append_nil _).symm⟩
 | cons p ps ih =>
  have h:=ih (OY i s p)
  have e:((OY i s p).1.pn i).e = (BO (s.1.pn i).e 1 p).1:=Og s.1 i p
  rw [e] at h
  refine ⟨h.1,h.2.trans ?_⟩
  show (s.2 ++ _) ++ Oe _ ps = s.2 ++ (_ ++ Oe _ ps)
  rw [List.append_assoc]
theorem Oh {XA XB:Ps} {i k:Nat} (hi:XB.has i) (hk:XA.has k):((Bj XA XB i k).1.1.pn k).e = (MQ (XA.pn k).e (XB.pn i).e).1 ∧ ((Bj XA XB i k).2.1.pn i).e = (MQ (XA.pn k).e (XB.pn i).e).2 ∧ (Bj XA XB i k).2.2 = Oe (XB.pn i).e (XA.pn k).e.out:=by
 have h1:=VT i (XA.pn k).e.out (XB,[])
 have hh:(Ee i (XB,[]) (XA.pn k).e.out).1.has i:=Gl (s:=(XB,[])) hi
 have h2:=VT k ((Ee i (XB,[]) (XA.pn k).e.out).1.pn i).e.out (Bi XA XA.nodes,[])
 have ho:=Fe XA XA.nodes k hk.2.1 hk
 have ho2:=Fe (Ee i (XB,[]) (XA.pn k).e.out).1 (Ee i (XB,[]) (XA.pn k).e.out).1.nodes i hh.2.1 hh
 unfold Bj MQ
 refine ⟨h2.1.trans ?_,?_,h1.2⟩
 ·rw [h1.1]
  show feed 1 ((Bi XA XA.nodes).pn k).e _ = _
  rw [ho]
  rfl
 ·show ((Bi _ _).pn i).e = _
  rw [ho2,h1.1]
  rfl
theorem Yo {W:List (List Int)} (hW:∀ r ∈ W,0 < r.length) (n:Nat):∀ (m:Nat) (o:List BL),m + n ≤ W.length → o.length + n ≤ 1024 → Oe (bS m o) ((List.range n).map (fun i => dP W (m + i))) = (W.drop m).take n:=by
 induction n with
 | zero => intro m o _ _; rfl
 | succ n ih =>
  intro m o hm ho
  rw [List.range_succ_eq_map,List.map_cons,List.map_map]
  show (if (BO (bS m o) 1 (dP W (m + 0))).2.body.length = 0 then [] else [(BO (bS m o) 1 (dP W (m + 0))).2.body]) ++ Oe (BO (bS m o) 1 (dP W (m + 0))).1 _ = _
  rw [Nat.add_zero,Tj (by omega)]
  have hl:m < W.length:=by omega
  have hg:W.getD m [] = W[m]:=by rw [List.getD_eq_getElem?_getD,List.getElem?_eq_getElem hl]; rfl
  have hp:¬ (W.getD m []).length = 0:=by rw [hg]; have:=hW _ (List.getElem_mem hl); omega
  simp only
  rw [if_neg hp,List.drop_eq_getElem_cons hl,List.take_succ_cons,hg]
  have e:(List.map ((fun i => dP W (m + i)) ∘ Nat.succ) (List.range n)) = (List.range n).map (fun i => dP W (m + 1 + i)):=List.map_congr_left (fun i _ => by show dP W (m + (i + 1)) = _; rw [show m + (i + 1) = m + 1 + i by omega])
  rw [e,ih (m + 1) (o ++ [aP (m + 1)]) (by omega) (by rw [List.length_append,List.length_singleton]; omega)]
  rfl
theorem Oi {XA XB:Ps} {i k m:Nat} {W:List (List Int)} (hi:XB.has i) (hk:XA.has k) (hA:(XA.pn k).e = st W m) (hB:(XB.pn i).e = bS m []) (hW:∀ r ∈ W,0 < r.length) (hm:m ≤ W.length) :
  ((Bj XA XB i k).1.1.pn k).e = st W (m + min 8 (W.length - m)) ∧ ((Bj XA XB i k).2.1.pn i).e = bS (m + min 8 (W.length - m)) [] ∧ (Bj XA XB i k).2.2 = (W.drop m).take (min 8 (W.length - m)):=by
 have h:=Oh hi hk
 rw [hA,hB,Tn] at h
 refine ⟨h.1,h.2.1,h.2.2.trans ?_⟩
 exact Yo hW _ m [] (by omega) (by simp; omega)
end Go.Proofs.Ytnkkgofpifhoeaa.Pe
end
section
namespace Go.Proofs.Ytnkkgofpifhoeaa.Pe
open Go.RowKit Go.Proofs.Ytnkkgofpifhoeaa.Lk Go.Proofs.YtnkkgofpifhoeaaW.PrintWords
def sE (n:Nat):Ps × Ps:=iter (fresh 1 1 3) (fresh 3 1 3) 1 3 n
theorem GY (n:Nat):GX (sE n).1 ∧ GX (sE n).2 ∧ (sE n).1.has 3 ∧ (sE n).2.has 1 ∧ (sE n).1.nodes = 3 ∧ (sE n).2.nodes = 3 ∧ (sE n).1.evs.length ≤ 0 + 2048 * n ∧ (sE n).2.evs.length ≤ 0 + 2048 * n:=NC (GR 1 3) (GR 3 3) (by decide) (by decide) n
theorem iC:((sE 5).1.pn 3).e = st [] 0:=by kernel_rfl
theorem iD:((sE 5).2.pn 1).e = bS 0 []:=by kernel_rfl
theorem XJ:(sE 5).1.evs = [(3,true)]:=by decide +kernel
theorem Jo:Fb (fresh 1 1 3) 3 [120] = 141 ∧ Cj (fresh 1 1 3) 3 [120] = fresh 1 1 3:=⟨by decide,if_neg (by decide)⟩
structure SD (XA XB:Ps) (W:List (List Int)):Prop where
 a:(XA.pn 3).e = st W 0
 b:(XB.pn 1).e = bS 0 []
 ga:GX XA
 gb:GX XB
 ha:XA.has 3
 hb:XB.has 1
 na:XA.nodes = 3
 nb:XB.nodes = 3
 evs:XA.evs = [(3,true)]
 kP:XB.evs.length ≤ 10240
 full:∀ r ∈ W,0 < r.length
 len:W.length ≤ 64
theorem Tt:SD (sE 5).1 (sE 5).2 []:=⟨iC,iD,(GY 5).1,(GY 5).2.1,(GY 5).2.2.1,(GY 5).2.2.2.1,(GY 5).2.2.2.2.1,(GY 5).2.2.2.2.2.1,XJ,by have:=(GY 5).2.2.2.2.2.2.2; omega,fun r hr => (by cases hr),Nat.zero_le _⟩
theorem II (X:Ps) (k:Nat) (L:Lk):((X.CV k L).pn k).e = L:=by unfold Ps.CV; rw [Ps.Eb]
section
variable {XA XB:Ps} {W:List (List Int)} (h:SD XA XB W) (b:List Int)
include h
theorem SD.code:Fb XA 3 b = if b.length = 0 ∨ 1000 < b.length then 112 else if W.length = 64 then 142 else 0:=by
 have hl:=h.len
 unfold Fb
 rw [h.a,if_pos (show (st W 0).phase = 2 from rfl),GV]
 by_cases h1:b.length = 0 ∨ 1000 < b.length
 ·rw [if_pos h1,if_pos h1,if_neg (by decide)]
 ·rw [if_neg h1,if_neg h1]
  by_cases h2:64 ≤ W.length
  ·rw [if_pos h2,if_pos rfl,if_pos (by omega)]
  ·rw [if_neg h2,if_neg (by decide),if_neg (by omega)]
theorem SD.long (hb:b.length = 0 ∨ 1000 < b.length):SD (Cj XA 3 b) XB W:=by
 have e:Cj XA 3 b = XA:=by
  unfold Cj
  rw [h.a,if_pos (show (st W 0).phase = 2 from rfl),GV,if_pos hb,if_neg (by decide),Oc (.inl hb),← h.a,IZ]
 rw [e]
 exact h
theorem SD.sent (hb:¬ (b.length = 0 ∨ 1000 < b.length)) (hW:W.length < 64) (hby:Pk.BV b):SD (Cj XA 3 b) XB (W ++ [b]):=by
 have e:Cj XA 3 b = XA.CV 3 (st (W ++ [b]) 0):=by
  unfold Cj
  rw [h.a,if_pos (show (st W 0).phase = 2 from rfl),GV,if_neg hb,if_neg (by omega),Pq hb hW]
 have hf:(st (W ++ [b]) 0).Fine ∧ Ex (st (W ++ [b]) 0):=by
  rw [← Pq hb hW,← h.a]
  exact ⟨OT (h.ga 3 h.ha).1 b,U6 (h.ga 3 h.ha).2 hby⟩
 rw [e]
 refine ⟨II _ _ _,h.b,fun j hj => ?_,h.gb,h.ha,h.hb,h.na,h.nb,h.evs,h.kP,fun r hr => ?_,by rw [List.length_append,List.length_singleton]; omega⟩
 ·by_cases hj3:j = 3
  ·subst hj3; rw [II]; exact hf
  ·unfold Ps.CV
   rw [Ps.Ec XA hj3]
   exact h.ga j hj
 ·rcases List.mem_append.1 hr with hr | hr
  ·exact h.full r hr
  ·rw [List.mem_singleton.1 hr]; omega
theorem SD.cut (hb:¬ (b.length = 0 ∨ 1000 < b.length)) (hW:W.length = 64):(Cj XA 3 b).evs = [(3,true),(3,false)] ∧ ((Cj XA 3 b).pn 3).e.phase = 1 ∧ ((Cj XA 3 b).pn 3).e.queue = [] ∧ GX (Cj XA 3 b) ∧ (Cj XA 3 b).has 3:=by
 have e:Cj XA 3 b = OL XA 3:=by
  unfold Cj
  rw [h.a,if_pos (show (st W 0).phase = 2 from rfl),GV,if_neg hb,if_pos (by omega)]
 have e2:OL XA 3 = (Fa XA 3 false).CV 3 (EE (ET (st W 0))):=by
  unfold OL
  rw [h.a,if_pos (show (st W 0).phase = 2 from rfl)]
 have hop:EE (ET (st W 0)) = emit_ (Dj (ET (st W 0))) (Cf (Dj (ET (st W 0)))):=if_pos ⟨rfl,by show (1:Int) ≠ 4294967295; decide⟩
 have hf:(EE (ET (st W 0))).Fine ∧ Ex (EE (ET (st W 0))):=by
  rw [← h.a]
  exact ⟨KF (KG (h.ga 3 h.ha).1),PR (PS (h.ga 3 h.ha).2)⟩
 rw [e,e2]
 refine ⟨by show XA.evs ++ [_] = _; rw [h.evs]; rfl,?_,?_,fun j hj => ?_,h.ha⟩
 ·rw [II,hop,Jd]; rfl
 ·rw [II,hop]
  unfold emit_
  split <;> rfl
 ·by_cases hj3:j = 3
  ·subst hj3; rw [II]; exact hf
  ·unfold Ps.CV
   rw [Ps.Ec _ hj3]
   exact h.ga j hj
end
structure SR (XA XB:Ps) (W:List (List Int)) (m:Nat):Prop where
 a:(XA.pn 3).e = st W m
 b:(XB.pn 1).e = bS m []
 ga:GX XA
 gb:GX XB
 ha:XA.has 3
 hb:XB.has 1
 na:XA.nodes = 3
 nb:XB.nodes = 3
 full:∀ r ∈ W,0 < r.length
 le:m ≤ W.length
theorem SD.sr {XA XB:Ps} {W:List (List Int)} (h:SD XA XB W):SR XA XB W 0:=⟨h.a,h.b,h.ga,h.gb,h.ha,h.hb,h.na,h.nb,h.full,Nat.zero_le _⟩
theorem SR.round {XA XB:Ps} {W:List (List Int)} {m:Nat} (h:SR XA XB W m):SR (Bj XA XB 1 3).1.1 (Bj XA XB 1 3).2.1 W (m + min 8 (W.length - m)) ∧ (Bj XA XB 1 3).2.2 = (W.drop m).take (min 8 (W.length - m)):=by
 have hr:=Oi h.hb h.ha h.a h.b h.full h.le
 have hs:=Md XA XB 1 3
 have hg:=PY h.ga h.gb h.hb h.ha
 have hn:=Jk XA XB 1 3
 exact ⟨⟨hr.1,hr.2.1,hg.1,hg.2,(hs 3).1.2 h.ha,(hs 1).2.2 h.hb,hn.1.trans h.na,hn.2.trans h.nb,h.full,by have:=h.le; omega⟩,hr.2.2⟩
end Go.Proofs.Ytnkkgofpifhoeaa.Pe
end
section
namespace Go.Proofs.Ytnkkgofpifhoeaa.Pe
open Go.RowKit Go.Proofs.Ytnkkgofpifhoeaa.Base Go.Proofs.Ytnkkgofpifhoeaa.Steps Go.Proofs.Ytnkkgofpifhoeaa.Lk Go.Proofs.YtnkkgofpifhoeaaW.PrintWords
structure SW (w:World) (Ba ga Bb gb:Nat) (XA XB:Ps) (W:List (List Int)) (v:Value) (wr:World):Prop where
 ex:∃ V,TW w Ba ga Bb gb V XA XB wr ∧ Fz.R 9 wr w.heap.size V v (W.map Go.strOfNums)
section
variable {w wr w':World} {Ba ga Bb gb:Nat} {XA XB:Ps} {W:List (List Int)} {v v1:Value}
theorem SW.start (h:TW w Ba ga Bb gb (fun _ => False) XA XB wr):SW w Ba ga Bb gb XA XB [] (.slice none 0 0) wr:=⟨_,h,Kd.CZ _ _ _ _ _⟩
theorem SW.two (h:SW w Ba ga Bb gb XA XB W v wr):TW w Ba ga Bb gb (fun _ => False) XA XB wr:=by
 obtain ⟨V,h1,h2⟩:=h.ex
 exact h1.less (fun k hk => hk.elim)
theorem SW.below (h:SW w Ba ga Bb gb XA XB W v wr):Below w.heap.size w wr:=h.two.below
theorem SW.sub (h:SW w Ba ga Bb gb XA XB W v wr) (hb:Below wr.heap.size wr w'):SW w Ba ga Bb gb XA XB W v w':=by
 obtain ⟨V,h1,h2⟩:=h.ex
 exact ⟨V,h1.sub hb,Kd.Dk h2 hb⟩
theorem SW.slice (h:SW w Ba ga Bb gb XA XB W v wr):∃ A c,v = .slice A W.length c:=by
 obtain ⟨V,h1,h2⟩:=h.ex
 obtain ⟨A,c,hv⟩:=Kd.BA h2
 rw [List.length_map] at hv
 exact ⟨A,c,hv⟩
theorem SW.send (h:SW w Ba ga Bb gb XA XB W v wr) {i:Nat} (hi:XA.has i) (hg:GX XA) (hl:XA.evs.length ≤ 1000000) (body:List Int) (A:Option Addr) (c:Nat) (hC:(Kd.int .u8).C wr A body.length body) :
  Calls Try.prog 51 #[.pointer (some ⟨ga,0,none⟩),.int .i64 i,.slice A body.length c] wr fun e w' => e = .returned (.int .i64 (Fb XA i body)) ∧ SW w Ba ga Bb gb (Cj XA i body) XB W v w':=by
 obtain ⟨V,h1,h2⟩:=h.ex
 exact (La h1 i hi hg hl body A c hC).mono fun e w' ⟨he,ht,hk⟩ => ⟨he,V,ht,Kd.BJ h2 hk (fun k hv hn => hn hv)⟩
theorem SW.no (h:SW w Ba ga Bb gb XA XB W v wr) (k:Int) (hk:¬ (1 ≤ k ∧ k ≤ XA.nodes ∧ k ≠ XA.me)) (b:Value):Calls Try.prog 51 #[.pointer (some ⟨ga,0,none⟩),.int .i64 k,b] wr fun e w' => e = .returned (.int .i64 140) ∧ wr = w':=by
 obtain ⟨V,h1,h2⟩:=h.ex
 obtain ⟨UA,UB,g1,_⟩:=h1.ex
 exact Qe g1 k hk b
theorem SW.swap (h:SW w Ba ga Bb gb XA XB W v wr) (i k:Nat) (hi:XB.has i) (hk:XA.has k) (gA:GX XA) (gB:GX XB) (nA:XA.nodes ≤ 64) (nB:XB.nodes ≤ 64) (eA:XA.evs.length ≤ 900000) (eB:XB.evs.length ≤ 900000) :
  Calls Try.prog 52 #[.pointer (some ⟨ga,0,none⟩),.pointer (some ⟨gb,0,none⟩),.int .i64 i,.int .i64 k] wr fun e w' => ∃ v0 v1,e = .returned (.agg #[v0,v1]) ∧ (∃ A n c,v0 = .slice A n c) ∧ (∃ ok1,Fz.R 9 w' wr.heap.size ok1 v1 ((Bj XA XB i k).2.2.map Go.strOfNums)) ∧ SW w Ba ga Bb gb (Bj XA XB i k).1.1 (Bj XA XB i k).2.1 W v w':=by
 obtain ⟨V,h1,h2⟩:=h.ex
 exact (PZ h1 i k hi hk gA gB nA nB eA eB).mono fun e w' ⟨v0,v1,he,h0,hr,ht,hK⟩ => ⟨v0,v1,he,h0,hr,V,ht,Kd.BJ h2 hK (fun k hv hn => hn hv)⟩
theorem SW.put {b:List Int} (h:SW w Ba ga Bb gb XA XB W v wr) {V:Nat → Prop} (ht:TW w Ba ga Bb gb V XA XB wr) (hr:Fz.R 9 wr w.heap.size V v (W.map Go.strOfNums)) (hR:Fz.R 9 w' w.heap.size (fun k => V k ∨ wr.heap.size ≤ k) v1 (W.map Go.strOfNums ++ [Go.strOfNums b])) (hg:wr.grownBy w' v.ownBlock) (hb:Below w.heap.size w w'):SW w Ba ga Bb gb XA XB (W ++ [b]) v1 w':=by
 have hk:Kept wr w' V:=Kept.Eo hg (Kept.refl _ _) (fun k hk => .inl (hr.1 k hk))
 obtain ⟨UA,UB,h1,h2,h3,h4⟩:=ht.ex
 refine ⟨fun k => (V k ∨ wr.heap.size ≤ k) ∧ k < w'.heap.size,⟨⟨UA,UB,h1.kept hk (fun k hu hv => (h4 k hv).2.1 hu),h2.kept hk (fun k hu hv => (h4 k hv).2.2 hu),h3,fun k hv => ⟨hv.2,fun hu => ?_,fun hu => ?_⟩⟩,hb,ht.lo⟩,?_⟩
 ·rcases hv.1 with hv | hv
  ·exact (h4 k hv).2.1 hu
  ·have:=h1.lt k hu; omega
 ·rcases hv.1 with hv | hv
  ·exact (h4 k hv).2.2 hu
  ·have:=h2.lt k hu; omega
 ·rw [List.map_append]
  exact Kd.Az (Kd.CG hR) (fun k hx => ⟨hx.1,hx.2.2.1⟩)
end
theorem KQ {w:World} {b:Nat} {ok:Nat → Prop} {A:Option Addr} {m c:Nat} {L:List (List Int)} (h:Fz.R 9 w b ok (.slice A m c) (L.map Go.strOfNums)) (n:Nat) (hn:n < L.length) :
  ∃ g,A = some ⟨g,0,none⟩ ∧ w.cell? ⟨g,n,none⟩ = some (.string (Go.strOfNums (L.getD n []))):=by
 have hm:(L.map Go.strOfNums).length = L.length:=List.length_map ..
 obtain ⟨gx,cap,he,_⟩:=Kd.KZ h (by rw [hm]; omega)
 injection he with h1 h2 h3
 subst h1
 obtain ⟨cs,hcl,hM,hc,_⟩:=Kd.Kq h (Go.strOfNums []) (n:Int) (by omega) (by rw [hm] at h2; omega)
 rw [Int.toNat_natCast] at hM hc
 have hM':cs = [Value.string ((L.map Go.strOfNums).getD n (Go.strOfNums []))]:=hM
 subst hM'
 refine ⟨gx,rfl,?_⟩
 have h0:=hc 0 _ rfl
 rw [show Kd.sz Fz = 1 from rfl,Nat.mul_one,Nat.add_zero] at h0
 rw [h0,List.getD_eq_getElem?_getD,List.getD_eq_getElem?_getD,List.getElem?_map,List.getElem?_eq_getElem hn]
 rfl
theorem TW.base {w wa wr:World} {Ba ga Bb gb:Nat} {V:Nat → Prop} {XA XB:Ps} (h:TW wa Ba ga Bb gb V XA XB wr) (hb:Below w.heap.size w wa):TW w Ba ga Bb gb V XA XB wr:=⟨h.ex,hb.trans (h.below.mono hb.size),Nat.le_trans hb.size h.lo.1,Nat.le_trans hb.size h.lo.2⟩
structure In (w:World) (A0:Option Addr) (xs:List (List Int)):Prop where
 c:Lk.bytes.C w A0 xs.length xs
 sO:∀ r ∈ xs,Pk.BV r
theorem In.at_ {w:World} {A:Option Addr} {xs:List (List Int)} (h:In w A xs) (i:Nat) (hi:i < xs.length):∃ ad A' c',A = some ad ∧ w.cell? (ad.add i) = some (.slice A' (xs.getD i []).length c') ∧ (Kd.int .u8).C w A' (xs.getD i []).length (xs.getD i []) ∧ Pk.BV (xs.getD i []):=by
 obtain ⟨ad,c,hA,hl,hK,hc⟩:=Kd.Xh h.c [] (i:Int) (by omega) (by omega)
 rw [Int.toNat_natCast] at hK hc
 obtain ⟨A',c',hcs,_,hC⟩:=hK
 subst hcs
 refine ⟨ad,A',c',hA,?_,hC,?_⟩
 ·have:=hc 0 _ rfl
  rwa [show Kd.sz Lk.bytes = 1 from rfl,Nat.mul_one,Nat.add_zero] at this
 ·rw [List.getD_eq_getElem?_getD,List.getElem?_eq_getElem hi]
  exact h.sO _ (List.getElem_mem hi)
end Go.Proofs.Ytnkkgofpifhoeaa.Pe
end
section
namespace Go.Proofs.Ytnkkgofpifhoeaa.Pe
open Go.RowKit Go.Proofs.Ytnkkgofpifhoeaa.Base Go.Proofs.Ytnkkgofpifhoeaa.Steps Go.Proofs.Ytnkkgofpifhoeaa.Lk Go.Proofs.YtnkkgofpifhoeaaW.PrintWords Go.Proofs.YtnkkgofpifhoeaaW.PrintLast
theorem iE (g:Nat) (W:World):(Instr.indexAt 94 (.pointer (some ⟨g,0,none⟩)) (.int .i64 1)).run Try.prog W = .ok (.pointer (some ⟨g,1,none⟩)) W:=by
 have hs:(sizeOf (Try.prog.elem 94)).run Try.prog W = .ok 1 W:=by kernel_rfl
 rw [run_indexAt_array W 94 ⟨g,0,none⟩ .i64 1 (by kernel_rfl),if_pos (by rw [show Try.prog.arrayLen 94 = 2 from by kernel_rfl]; decide),hs]
 rfl
theorem Oj {X:Ps} {k:Nat} {b:List Int} (h:(X.pn k).e.phase ≠ 2):Fb X k b = 141:=by
 unfold Fb
 rw [if_neg h]
def SL (w:World) (Ba ga Bb gb:Nat) (v:Value) (wr:World):Prop:=∃ XA XB W,SD XA XB W ∧ SW w Ba ga Bb gb XA XB W v wr
def SI (w:World) (Ba ga Bb gb:Nat) (W:List (List Int)) (v:Value) (i:Nat) (wr:World):Prop:=∃ XA XB,SR XA XB W (pos W.length i) ∧ XA.evs.length ≤ 1 + 2048 * i ∧ XB.evs.length ≤ 10240 + 2048 * i ∧ SW w Ba ga Bb gb XA XB W v wr
theorem Ol (w:World) (A0:Option Addr) (c0:Nat) (xs:List (List Int)) (hI:In w A0 xs) :
  Calls Try.prog 13 #[.slice A0 xs.length c0] w fun e w' => e = .returned (.bool true) ∧ Below w.heap.size w w':=by
 have HI:=Lib.hid hI
 generalize hn0:xs.length = n0 at *
 have sQ:=Lib.hid hn0
 clear hn0 hI
 have hconv:=fun W => Lib.run_convert_bytes_const (P:=Try.prog) W 22 5 #[.int .u8 120] 1 1 Try.underlying22 Try.underlying5
 go_enter Try.func13,Try.ntmps13
 go_wp2_with (first | (go_at_call 49; (refine (VE w).mono ?_); rintro e wa ⟨rfl,hba⟩; (have kQ:=Lib.hid hba); (clear hba)) | (go_at_call 50; (have hz:Calls Try.prog 50 #[.int .i64 1,.int .i64 3,.int .u32 1] wa _:=LY 1 3 (by decide) (by decide) wa); (with_reducible refine hz.mono ?_); clear hz; rintro e w1 ⟨ga,rfl,Yg,hb1⟩; (have Wl:=Lib.hid Yg); (have HB1:=Lib.hid hb1); (clear Yg hb1)) | (go_at_call 50; (have hz:Calls Try.prog 50 #[.int .i64 3,.int .i64 3,.int .u32 1] w1 _:=LY 3 3 (by decide) (by decide) w1); (with_reducible refine hz.mono ?_); clear hz; rintro e w2 ⟨gb,rfl,Yh,hb2⟩; (have HT0:=Lib.hid (Pg wa w1 w2 Wl.out HB1.out Yh hb2)); (clear Yh hb2)))
 have hb3:Below w2.heap.size w2 (w2.alloc (.cells #[.int .u8 120] 5 (1,2))):=(Below.refl _ _).alloc (Nat.le_refl _) _
 have Vy:=Lib.hid ((SW.start (HT0.out.base kQ.out)).sub hb3)
 have hs3:=Vy.out.send (i:=3) (by decide) (GR 1 3) (by decide) [120] (some ⟨w2.heap.size,0,none⟩) 1 (TL w2)
 rw [Jo.1,Jo.2] at hs3
 refine (show Calls Try.prog 51 #[.pointer (some ⟨ga,0,none⟩),.int .i64 3,.slice (some ⟨w2.heap.size,0,none⟩) 1 1] (w2.alloc (.cells #[.int .u8 120] 5 (1,2))) _ from hs3).mono ?_
 clear hs3 hb3 HT0
 rintro e w3 ⟨rfl,hS3⟩
 have ai:=Lib.hid (hS3.sub ((Below.refl _ _).alloc (Nat.le_refl _) (.cells #[.int .u8 120] 5 (1,2))))
 have Vy:=Lib.hid hS3
 clear hS3
 go_wp2_with (first | (go_at_call 51; (have hz:Calls Try.prog 51 #[.pointer (some ⟨ga,0,none⟩),.int .i64 1,.slice (some ⟨w3.heap.size,0,none⟩) 1 1] (w3.alloc (.cells #[.int .u8 120] 5 (1,2))) _:=ai.out.no 1 (by decide) _); (with_reducible refine hz.mono ?_); clear hz; rintro e FO ⟨rfl,rfl⟩) | (go_at_call 51; (have hz:Calls Try.prog 51 #[.pointer (some ⟨ga,0,none⟩),.int .i64 4,.slice none 0 0] (w3.alloc (.cells #[.int .u8 120] 5 (1,2))) _:=ai.out.no 4 (by decide) _); (with_reducible refine hz.mono ?_); clear hz; rintro e FO ⟨rfl,rfl⟩))
 generalize w1.heap.size = Bb at *
 generalize wa.heap.size = Ba at *
 go_loopw [7] (fun u wr => ∃ m:Nat,m ≤ 5 ∧ u = .int .i64 (m:Int) ∧ SW w Ba ga Bb gb (sE m).1 (sE m).2 [] (.slice none 0 0) wr) (fun u wr => 5 - (intOf u).toNat)
 case atStart => exact ⟨0,by decide,rfl,ai.out⟩
 case round =>
  obtain ⟨m,hm,rfl,hT⟩:=hrel
  have HT:=Lib.hid hT
  clear hT ai Vy Wl HB1 kQ hconv
  by_cases hlt:m < 5
  ·have hd:decide ((m:Int) < 5) = true:=by simp; omega
   have hv:=GY m
   have HC:=Lib.hid (show Calls Try.prog 52 #[.pointer (some ⟨ga,0,none⟩),.pointer (some ⟨gb,0,none⟩),.int .i64 1,.int .i64 3] wr _ from HT.out.swap 1 3 hv.2.2.2.1 hv.2.2.1 hv.1 hv.2.1 (by rw [hv.2.2.2.2.1]; decide) (by rw [hv.2.2.2.2.2.1]; decide) (by have:=hv.2.2.2.2.2.2.1; omega) (by have:=hv.2.2.2.2.2.2.2; omega))
   clear hv
   go_wp2_with (go_at_call 52; (have hc:=HC.out); (with_reducible refine hc.mono ?_); clear hc; rintro e w5 ⟨v0,v1,rfl,-,hr,VS⟩; (have gX:=Lib.hid VS); (clear hr VS))
   go_roundw
   case rel => exact ⟨m + 1,by omega,by go_num,gX.out⟩
   case measure => simp [intOf]; omega
  ·have hd:decide ((m:Int) < 5) = false:=by simp; omega
   have hme:m = 5:=by omega
   subst hme
   clear hm hlt
   have iF:=Lib.hid Tt
   go_upto_block 2 with fail
   go_cut [8,9,10,11,12] from 17 (fun s8 s9 s10 s11 s12 wc => SL w Ba ga Bb gb s8 wc)
   case first =>
    go_wp2_with fail
    have S0:=Lib.hid (⟨_,_,[],iF.out,HT.out⟩:SL w Ba ga Bb gb (.slice none 0 0) wr)
    clear iF HT Vy hd
    go_loopg [8,9] (80 + 1) (fun m wv v wr => ∃ i:Nat,m = 80 + 1 - i ∧ i ≤ 80 ∧ i ≤ n0 ∧ v = .int .i64 (i:Int) ∧ SL w Ba ga Bb gb wv wr)
    case atStart => exact ⟨0,rfl,by decide,Nat.zero_le _,rfl,S0.out⟩
    case round =>
     obtain ⟨i,hm,hin,hin0,rfl,XA,XB,W,hD,hS⟩:=hrel
     have HM:=Lib.hid hm
     have U2:=Lib.hid hin
     have sU:=Lib.hid hin0
     have HD:=Lib.hid hD
     have HS:=Lib.hid hS
     clear hm hin hin0 S0
     obtain ⟨Aw,cw,hwv⟩:=hS.slice
     subst hwv
     clear hS
     have HW:=Lib.hid hD.len
     clear hD
     by_cases hgo:(i:Int) < (n0:Int) ∧ (i:Int) < 80
     ·have hd1:decide ((i:Int) < (n0:Int)) = true:=by simp; omega
      have hd2:decide ((i:Int) < 80) = true:=by simp; omega
      have kN:=Lib.hid hgo
      obtain ⟨ad,Ai,ci,hA0,hcell,kR,hby⟩:=HI.out.at_ i (by have:=sQ.out; omega)
      subst hA0
      have Ph:=Lib.hid hcell
      have iG:=Lib.hid kR
      have sV:=Lib.hid hby
      have hcr:wr.cell? (ad.add i) = some (.slice Ai (xs.getD i []).length ci):=cell_kept hcell (Kept.of_below HS.out.below (fun _ => False)) (fun h => h)
      clear kR hcell hby
      generalize hbd:xs.getD i [] = bd at *
      clear hbd
      have hse:=HS.out.send (i:=3) HD.out.ha HD.out.ga (by rw [HD.out.evs]; decide) bd Ai ci (Kd.BK iG.out HS.out.below)
      rw [HD.out.code bd] at hse
      have iH:=Lib.hid (fun h1 h2 => HD.out.cut bd h1 h2)
      have sK:=Lib.hid (HD.out.long bd)
      have sW:=Lib.hid (HD.out.sent bd)
      generalize hbl:bd.length = nb at *
      have Yp:=Lib.hid hbl
      clear hbl
      generalize kS:W.length = nW at *
      have Ym:=Lib.hid kS
      clear kS
      have iI:=hgo.2
      have hin0:=hgo.1
      have su:=HW.out
      clear hgo
      by_cases hlong:nb = 0 ∨ 1000 < nb
      ·rw [if_pos hlong] at hse
       have Hz:=Lib.hid hse
       clear hse
       have sN:=Lib.hid hlong
       rcases Nat.eq_zero_or_pos nb with hnz | hnz
       ·have hd3:((nb:Int) == 0) = true:=by simp [hnz]
        have uP:=Lib.hid hnz
        exact kM
       ·have hd3:((nb:Int) == 0) = false:=by simp; omega
        have hd4:decide ((nb:Int) > 1000) = true:=by simp; omega
        exact kM
      ·rw [if_neg hlong] at hse
       have hd3:((nb:Int) == 0) = false:=by simp; omega
       have hd4:decide ((nb:Int) > 1000) = false:=by simp; omega
       by_cases h64:nW = 64
       ·rw [if_pos h64] at hse
        have Hz:=Lib.hid hse
        have hd5:((nW:Int) == 64) = true:=by simp; omega
        have HX:=Lib.hid (iH.out hlong h64)
        clear hse hlong
        go_wp2_with (first | (go_at_call 51; (have hc:Calls Try.prog 51 #[.pointer (some ⟨ga,0,none⟩),.int .i64 3,.slice Ai nb ci] wr _:=Hz.out); (with_reducible refine Go.Calls.mono hc ?_); clear hc; rintro e ws ⟨rfl,hS5⟩; (have Jj:=Lib.hid hS5); (have NG:=Lib.hid hS5.below); (have hcs:ws.cell? (ad.add i) = some (.slice Ai nb ci):=cell_kept Ph.out (Kept.of_below NG.out (fun _ => False)) (fun h => h)); (clear hS5 hcr)) | (go_at_call 51; (have hz:Calls Try.prog 51 #[.pointer (some ⟨ga,0,none⟩),.int .i64 3,.slice Ai nb ci] w6 _:=tC.out); (with_reducible refine Go.Calls.mono hz ?_); clear hz; rintro e w12 ⟨rfl,Yq,-⟩; (have iJ:=Lib.hid Yq.below); (clear Yq)) | (go_at_call 53; (have hc:=Ib Jj.out.two); (with_reducible refine hc.mono ?_); clear hc; rintro e w6 ⟨v,V6,rfl,hR,UK,hK6⟩; (rw [HX.out.1] at hR); (obtain ⟨A6,c6,hv6⟩:=Kd.BA hR); (rw [show ([((3:Int),true),(3,false)]:List (Int × Bool)).length = 2 from rfl] at hv6); (subst hv6); (obtain ⟨g6,Gi,-,Yk⟩:=Jm hR 1 (by decide)); (subst Gi); (have a1:w6.cell? ⟨g6,3,none⟩ = some (.bool false):=Yk); (have gY:=Lib.hid UK); (have tH:=Lib.hid (NF UK 3 (JE HX.out.2.2.2.2))); (have tJ:=Lib.hid (Jl UK 3 (JE HX.out.2.2.2.2))); (have iK:=Lib.hid UK.below); (have hs7:=La UK 3 (JE HX.out.2.2.2.2) (Tf HX.out.2.2.2.1) (Nat.zero_le _) bd Ai ci (Kd.BK (by have:=iG.out; rwa [← Yp.out] at this) UK.below)); (rw [Yp.out,Oj (X:={ (Cj XA 3 bd) with evs:=[] }) (k:=3) (b:=bd) (by show ((Cj XA 3 bd).pn 3).e.phase ≠ 2; rw [HX.out.2.1]; decide)] at hs7); (have tC:=Lib.hid hs7); (clear hs7); (have tK:w6.cell? (ad.add i) = some (.slice Ai nb ci):=cell_kept Ph.out (Kept.of_below iK.out (fun _ => False)) (fun h => h)); (clear hR UK hK6 Yk)) | (go_at_call 54; (have hz:Calls Try.prog 54 #[.pointer (some ⟨ga,0,none⟩),.int .i64 3] w6 _:=tH.out); (with_reducible refine Go.Calls.mono hz ?_); clear hz; rintro e FO ⟨rfl,rfl⟩; (rw [show (Ps.pn { (Cj XA 3 bd) with evs:=[] } 3).e.phase = 1 from HX.out.2.1])) | (go_at_call 55; (have hz:Calls Try.prog 55 #[.pointer (some ⟨ga,0,none⟩),.int .i64 3] w6 _:=tJ.out); (with_reducible refine Go.Calls.mono hz ?_); clear hz; rintro e FO ⟨rfl,rfl⟩; (rw [show (Ps.pn { (Cj XA 3 bd) with evs:=[] } 3).e.queue = [] from HX.out.2.2.1])))
        go_ret
        exact ⟨rfl,iJ.out⟩
       ·rw [if_neg h64] at hse
        have Hz:=Lib.hid hse
        have hd5:((nW:Int) == 64) = false:=by simp; omega
        have HX:=Lib.hid (sW.out hlong (by omega) sV.out)
        have uQ:=Lib.hid h64
        clear hse hlong
        go_wp2_with (first | (go_at_call 51; (have hc:Calls Try.prog 51 #[.pointer (some ⟨ga,0,none⟩),.int .i64 3,.slice Ai nb ci] wr _:=Hz.out); (with_reducible refine Go.Calls.mono hc ?_); clear hc; rintro e ws ⟨rfl,hS5⟩; (have Jj:=Lib.hid hS5); (have NG:=Lib.hid hS5.below); (have hcs:ws.cell? (ad.add i) = some (.slice Ai nb ci):=cell_kept Ph.out (Kept.of_below NG.out (fun _ => False)) (fun h => h)); (have hcv:=Kd.JM (P:=Try.prog) (dst:=9) (c:=ci) Try.underlying22 Try.underlying5 Try.underlying9 (Kd.BK iG.out NG.out)); (clear hS5 hcr)) | ((with_reducible refine AV (N:=131) rfl ?_); (obtain ⟨V5,VS,iL⟩:=Jj.out.ex); (refine Kd.Ej (W:=ws) (w0:=ws) Fz w.heap.size rfl (.tmp 124) (.tmp 130) 74 9 (.string ⟨#[]⟩) 16 rfl Try.underlying74 info9 rfl (by decide) (by decide) (.slice Aw nW cw) (W.map Go.strOfNums) (Go.strOfNums bd) [.string (Go.strOfNums bd)] (fun r => V5 r ∨ ws.heap.size ≤ r) (fun _ => False) rfl rfl (show Kd.M Fz _ _ _ (Go.strOfNums bd) [.string (Go.strOfNums bd)] from rfl) (fun _ h => h.elim) (fun _ hr => .inr hr) (Kd.Az iL (fun _ h => .inl h)) (Below.refl _ _) NG.out.size (by rw [List.length_map]; have:=Ym.out; have:=HW.out; omega) ?_); (intro v1 w6 UI hb6 NL Tc); (have Yb:=Lib.hid (Jj.out.put VS iL UI NL (NG.out.trans hb6))); (clear UI hb6 NL Tc VS iL)))
        go_roundg (80 + 1 - (i + 1))
        case measure => have:=HM.out; omega
        case rel => exact ⟨i + 1,rfl,by omega,by have:=kN.out.1; omega,by first | rfl | simp,_,_,W ++ [bd],HX.out,Yb.out⟩
     ·have tN:=Lib.hid hgo
      have Yc:=Lib.hid (⟨XA,XB,W,HD.out,HS.out⟩:SL w Ba ga Bb gb (.slice Aw W.length cw) wr)
      by_cases hin0:(i:Int) < (n0:Int)
      ·have iI:¬ (i:Int) < 80:=fun h => tN.out ⟨hin0,h⟩
       have hd1:decide ((i:Int) < (n0:Int)) = true:=by simp; omega
       have hd2:decide ((i:Int) < 80) = false:=by simp; omega
       clear hgo
       go_wp2_with fail
       go_meet
       case rel => exact Yc.out
      ·have hd1:decide ((i:Int) < (n0:Int)) = false:=by simp; omega
       clear hgo
       go_wp2_with fail
       go_meet
       case rel => exact Yc.out
   case rest =>
    obtain ⟨XA,XB,W,hD,hS⟩:=hcut
    obtain ⟨Aw,cw,hwv⟩:=hS.slice
    subst hwv
    have Yr:=Lib.hid hD.len
    have S0:=Lib.hid (⟨XA,XB,by rw [show pos W.length 0 = 0 by unfold pos; omega]; exact hD.sr,by rw [hD.evs]; decide,hD.kP,hS⟩:SI w Ba ga Bb gb W (.slice Aw W.length cw) 0 wc)
    clear hD hS
    generalize hnw:W.length = nW at *
    have VU:=Lib.hid hnw
    clear hnw iF HT Vy hd
    go_wp2_with fail
    go_loopg [13,14] 40 (fun m s13 s14 wr => ∃ i:Nat,m = 40 - i ∧ i ≤ 40 ∧ s14 = .int .i64 (i:Int) ∧ s13 = .int .i64 (pos nW i:Int) ∧ SI w Ba ga Bb gb W (.slice Aw nW cw) i wr)
    case atStart => exact ⟨0,rfl,by decide,rfl,by rw [show pos nW 0 = 0 by unfold pos; omega]; rfl,S0.out⟩
    case round =>
     obtain ⟨wo,rfl⟩:∃ wo:World,wo = wr:=⟨_,rfl⟩
     obtain ⟨i,hm,hin,rfl,rfl,XA,XB,hR,hea,heb,hS⟩:=hrel
     rw [VU.out] at hR
     have HM:=Lib.hid hm
     have U2:=Lib.hid hin
     have iM:=Lib.hid (show i = 40 → pos nW i = nW from fun h => by subst h; have:=Yr.out; unfold pos; omega)
     have eF:=Lib.hid (Tq nW i)
     clear hm hin S0
     have hp0:pos nW i ≤ nW:=by unfold pos; omega
     generalize hps:pos nW i = m at *
     have uS:=Lib.hid hps
     clear hps
     have HR:=Lib.hid hR
     have HS:=Lib.hid hS
     by_cases hlt:(i:Int) < 40
     ·have hd:decide ((i:Int) < 40) = true:=by simp; omega
      have hrr:=hR.round
      rw [VU.out] at hrr
      obtain ⟨s,hs⟩:∃ s,s = min 8 (nW - m):=⟨_,rfl⟩
      rw [← hs] at hrr
      have HRR:=Lib.hid hrr
      have hee:=Me hR.ga hR.gb hR.hb hR.ha
      have tV:=Lib.hid (show (Bj XA XB 1 3).1.1.evs.length ≤ 1 + 2048 * (i + 1) from Nat.le_trans hee.1 (by omega))
      have tX:=Lib.hid (show (Bj XA XB 1 3).2.1.evs.length ≤ 10240 + 2048 * (i + 1) from Nat.le_trans hee.2 (by omega))
      have HC:=Lib.hid (show Calls Try.prog 52 #[.pointer (some ⟨ga,0,none⟩),.pointer (some ⟨gb,0,none⟩),.int .i64 1,.int .i64 3] wo _ from hS.swap 1 3 hR.hb hR.ha hR.ga hR.gb (by rw [hR.na]; decide) (by rw [hR.nb]; decide) (by omega) (by omega))
      have tY:=Lib.hid hs
      have hsb:s ≤ 8 ∧ m + s ≤ nW:=by omega
      clear hR hS hrr hee hea heb hs
      go_wp2_with (first | (go_at_call 52; (have hc:=HC.out); (with_reducible refine hc.mono ?_); clear hc; rintro e w5 ⟨v0,v1,rfl,⟨uT,uU,uV,rfl⟩,⟨ok1,hr⟩,hS5⟩; (rw [HRR.out.2] at hr); (obtain ⟨A1,c1,hv1⟩:=Kd.BA hr); (rw [List.length_map,show ((W.drop m).take s).length = s from by rw [List.length_take,List.length_drop,VU.out]; omega] at hv1); (subst hv1); (have kT:=Lib.hid hr); (have Jj:=Lib.hid hS5); (clear hr hS5)) | ((with_reducible refine gate_ (.store 94 (.tmp 15) (.tmp 138)) rfl ?_); (refine Ae rfl rfl 94 (.tmp 15) (.tmp 138) rfl w5.heap.size _ rfl rfl 94 _ (heap_alloc_new w5 _) (by kernel_rfl) rfl (by kernel_rfl) ?_); (intro wu hbu Yt); (have kU:=Lib.hid (Yt.below ((Below.refl w5.heap.size w5).alloc (Nat.le_refl _) _) (Nat.le_refl _))); (have YM:=Lib.hid hbu); (clear hbu Yt)))
      have kW:=Lib.hid (Jj.out.sub kU.out)
      have tZ:=Lib.hid (Kd.Dk kT.out kU.out)
      clear kT Jj
      go_loopg [13,16] s (fun q s13 s16 wr => ∃ k:Nat,q = s - k ∧ k ≤ s ∧ s16 = .int .i64 (k:Int) ∧ s13 = .int .i64 ((m + k:Nat):Int) ∧ Below wu.heap.size wu wr)
      case atStart => exact ⟨0,rfl,Nat.zero_le _,rfl,rfl,Below.refl _ _⟩
      case round =>
       obtain ⟨k,hm,hin,rfl,rfl,hB⟩:=hrel
       have tq:=Lib.hid hm
       have iO:=Lib.hid hin
       have HB:=Lib.hid hB
       have k15:wr.cell? ⟨w5.heap.size,1,none⟩ = some (.slice A1 s c1):=cell_kept ((AA YM.out 1).trans rfl) (Kept.of_below hB (fun _ => False)) (fun h => h)
       clear hm hin hB
       by_cases hk:(k:Int) < (s:Int)
       ·have hdk:decide ((k:Int) < (s:Int)) = true:=by simp [hk]
        obtain ⟨gg,hA1,kg⟩:=KQ (Kd.Dk tZ.out HB.out) k (by rw [List.length_take,List.length_drop,VU.out]; omega)
        subst hA1
        obtain ⟨V9,-,CU⟩:=(kW.out.sub HB.out).ex
        have RX:Fz.R 9 wr w.heap.size V9 (.slice Aw W.length cw) (W.map Go.strOfNums):=VU.out ▸ CU
        obtain ⟨gw,tu,kw⟩:=KQ CU (m + k) (by rw [VU.out]; omega)
        subst tu
        have he:((W.drop m).take s).getD k [] = W.getD (m + k) []:=by
         rw [List.getD_eq_getElem?_getD,List.getD_eq_getElem?_getD,List.getElem?_take_of_lt (by omega),List.getElem?_drop]
        rw [he] at kg
        obtain ⟨j,hj⟩:∃ j,j = m + k:=⟨_,rfl⟩
        rw [← hj] at kg kw
        rw [← hj]
        have HJ:=Lib.hid hj
        generalize Go.strOfNums (W.getD j []) = str at kg kw
        have hdg:decide ((j:Int) ≥ (nW:Int)) = false:=by simp; omega
        have uA:¬ ((j:Int) ≥ (nW:Int)):=by omega
        have uB:decide (nW ≤ j) = false:=by simp; omega
        have uC:¬ nW ≤ j:=by omega
        have uD:(j:Int) < (nW:Int):=by omega
        clear he CU RX hj
        go_wp2_with fail
        have hia:=iE w5.heap.size
        go_quiet (fail)
        clear hia
        have h64:=Yr.out
        go_wp2_with fail
        go_roundg (s - (k + 1))
        case measure => have:=tq.out; omega
        case rel => exact ⟨k + 1,rfl,by omega,by first | rfl | simp,(by rw [show m + (k + 1) = j + 1 from by have:=HJ.out; omega]; first | rfl | simp),by first | exact HB.out | exact HB.out.trans (BI (Below.refl _ _) _)⟩
       ·have hks:k = s:=by have:=iO.out; omega
        subst hks
        have hdk:decide ((k:Int) < (k:Int)) = false:=by simp
        have hpe:m + k = pos nW (i + 1):=by rw [eF.out,← tY.out]
        have kX:=Lib.hid hpe
        have Hz:=Lib.hid (kW.out.sub HB.out)
        clear hpe hk
        go_wp2_with fail
        go_roundg (40 - (i + 1))
        case measure => have:=HM.out; omega
        case rel => exact ⟨i + 1,rfl,by omega,by first | rfl | simp,by rw [← kX.out],_,_,(by rw [VU.out,← kX.out]; exact HRR.out.1),tV.out,tX.out,Hz.out⟩
     ·have iP:i = 40:=by have:=U2.out; omega
      subst iP
      have hd:decide (((40:Nat):Int) < 40) = false:=by decide
      have hmn:m = nW:=iM.out rfl
      subst hmn
      have hq:=Jl hS.two 3 hR.ha
      have hq0:((XA.pn 3).e.queue.length:Int) = 0:=by rw [hR.a]; show ((W.drop m).length:Int) = 0; rw [List.length_drop,VU.out]; simp
      rw [hq0] at hq
      have HQ:=Lib.hid hq
      clear hq hq0 hR hS hea heb
      go_wp2_with (go_at_call 55; (have hz:Calls Try.prog 55 #[.pointer (some ⟨ga,0,none⟩),.int .i64 3] wo _:=HQ.out); (with_reducible refine Go.Calls.mono hz ?_); clear hz; rintro e w9 ⟨rfl,rfl⟩)
      go_ret
      exact ⟨rfl,HS.out.below⟩
end Go.Proofs.Ytnkkgofpifhoeaa.Pe
end
