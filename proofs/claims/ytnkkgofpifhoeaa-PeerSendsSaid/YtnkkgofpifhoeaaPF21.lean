/- What the laws of a pair are proved with: links and pairs in memory, what their methods do, what a pair keeps to (part 21). -/
import Derived.Test.YtnkkgofpifhoeaaPF20
import Derived.Deep.MidRow
import Derived.Deep.LoopGhost
import Derived.ArgAppend
import Derived.LoopN
import Derived.Laws.StructEq
import Derived.Handy
import Derived.Lib.SlBytesConst
import Derived.Lib.SmallJoins
set_option linter.unusedSimpArgs false
set_option linter.unusedVariables false
set_option maxRecDepth 100000
set_option maxHeartbeats 16000000
section
namespace Go.Proofs.Ytnkkgofpifhoeaa.Lk
open Go.RowKit Go.Proofs.Ytnkkgofpifhoeaa.Pk Go.Proofs.Ytnkkgofpifhoeaa.Pv
structure Lk.Fine (L:Lk):Prop where
 ok:L.Ok
 own:0 < L.own
 good:∀ p ∈ L.out,p.Good
 tok:L.phase ≠ 0 → 0 < L.token
 peer:L.known = true → 0 < L.AL ∧ 0 < L.yours
 up:L.phase = 2 → L.known = true
 full:∀ r ∈ L.queue,0 < r.length
 Il:L.phase ≠ 2 → L.queue = []
theorem WW:(G9 0 && G9 0) = true:=by decide
theorem OM {p:BL} (h:p.Good):0 < p.mine ∧ (p.kind = 2 → 0 < p.body.length):=by
 have hc:=h.check
 have hm:=h.YA.mine
 unfold Aj at hc
 split at hc
 ·rename_i hk
  split at hc
  ·rename_i hg
   have:p.mine ≠ 0:=by
    unfold good1 at hg
    simp only [Bool.and_eq_true,decide_eq_true_eq] at hg
    exact hg.1.1
   exact ⟨by omega,fun h => by omega⟩
  ·exact absurd hc (by decide)
 split at hc
 ·split at hc
  ·exact absurd hc (by decide)
  ·split at hc
   ·rename_i hg
    unfold Ic at hg
    simp only [Bool.and_eq_true,decide_eq_true_eq] at hg
    have:=hg.1.1
    exact ⟨by omega,fun _ => hg.1.2.2.2.1⟩
   ·exact absurd hc (by decide)
 split at hc
 ·split at hc
  ·rename_i hg
   unfold Ie at hg
   simp only [Bool.and_eq_true,decide_eq_true_eq] at hg
   have:=hg.1.1
   exact ⟨by omega,fun h => by omega⟩
  ·exact absurd hc (by decide)
 split at hc
 ·split at hc
  ·rename_i hg
   unfold JF at hg
   simp only [Bool.and_eq_true,decide_eq_true_eq] at hg
   have:=hg.2.1
   exact ⟨by omega,fun h => by omega⟩
  ·exact absurd hc (by decide)
 ·exact absurd hc (by decide)
theorem OO {L:Lk} (h:L.Ok) {k s a:Int} {b:List Int} (hs:0 ≤ s ∧ s < 4294967296) (ha:0 ≤ a ∧ a < 4294967296) {x y:Int} (hx:0 ≤ x ∧ x < 4294967296) (hy:0 ≤ y ∧ y < 4294967296):(⟨k,L.token,x,y,s,a,0,0,0,0,b⟩:BL).JV :=
 ⟨h.token,hx,hy,hs,ha,show (0:Nat) < 18446744073709551616 by decide,show (0:Nat) < 18446744073709551616 by decide⟩
theorem Et {L:Lk} (h:L.Fine) (hp:L.phase ≠ 0):(Cf L).Good:=by
 have ht:=h.tok hp
 have hb:=h.ok.AL
 have hy:=h.ok.yours
 refine ⟨OO h.ok (by show 0 ≤ (if L.phase = 2 then (1:Int) else 0) ∧ _; split <;> decide) (by decide) (by show 0 ≤ (if L.known = true then L.AL else 0) ∧ _; split <;> omega) (by show 0 ≤ (if L.known = true then L.yours else 0) ∧ _; split <;> omega),?_,Nat.zero_le _⟩
 show Aj 1 L.token (if L.known = true then L.AL else 0) (if L.known = true then L.yours else 0) (if L.phase = 2 then (1:Int) else 0) 0 0 0 0 0 0 = 0
 unfold Aj
 rw [if_pos rfl]
 refine if_pos ?_
 unfold good1
 rw [Bool.and_eq_true]
 refine ⟨decide_eq_true ⟨by omega,by split <;> decide,?_,rfl,rfl,rfl,rfl⟩,WW⟩
 split
 ·rename_i hk
  have:=h.peer hk
  exact ⟨fun _ => this.2,fun _ => this.1⟩
 ·exact ⟨fun h => h,fun h => h⟩
theorem QX {L:Lk} (h:L.Fine) (hp:L.phase = 2) (i:Int) (hi0:0 ≤ i) (hi:i < L.queue.length):(H6 L i).Good:=by
 have ht:=h.tok (by omega)
 have hk:=h.peer (h.up hp)
 have hr:L.queue.getD i.toNat [] ∈ L.queue:=by
  rw [List.getD_eq_getElem?_getD,List.getElem?_eq_getElem (by omega)]
  exact List.getElem_mem _
 have h1:=h.ok.rows _ hr
 have h2:=h.full _ hr
 refine ⟨OO h.ok (wrap32 _) h.ok.expected h.ok.AL h.ok.yours,?_,h1⟩
 show Aj 2 L.token L.AL L.yours _ L.expected 0 0 0 0 (L.queue.getD i.toNat []).length = 0
 unfold Aj
 rw [if_neg (by decide),if_pos rfl,if_neg (by omega)]
 refine if_pos ?_
 unfold Ic
 rw [Bool.and_eq_true]
 exact ⟨decide_eq_true ⟨by omega,hk.1,hk.2,h2,rfl,rfl⟩,WW⟩
theorem TF {L:Lk} (h:L.Fine) (hp:L.phase = 2):(LK L).Good:=by
 have ht:=h.tok (by omega)
 have hk:=h.peer (h.up hp)
 refine ⟨OO h.ok (by decide) h.ok.expected h.ok.AL h.ok.yours,?_,Nat.zero_le _⟩
 show Aj 3 L.token L.AL L.yours 0 L.expected 0 0 0 0 0 = 0
 unfold Aj
 rw [if_neg (by decide),if_neg (by decide),if_pos rfl]
 refine if_pos ?_
 unfold Ie
 rw [Bool.and_eq_true]
 exact ⟨decide_eq_true ⟨by omega,hk.1,hk.2,rfl,rfl,rfl,rfl⟩,WW⟩
theorem TG {own:Int} (ho:0 < own ∧ own < 4294967296):(newL own).Fine :=
 ⟨O5 own ho,ho.1,fun p hp => (by cases hp),fun h => absurd rfl h,fun h => (by cases h),fun h => (by cases h),fun r hr => (by cases hr),fun _ => rfl⟩
theorem EN {L:Lk} (h:L.Fine) {p:BL} (hp:p.Good):(emit_ L p).Fine:=by
 have hok:=O6 h.ok p
 unfold emit_ at hok ⊢
 split
 ·rename_i hc
  rw [if_pos hc] at hok
  refine ⟨hok,h.own,fun q hq => ?_,h.tok,h.peer,h.up,h.full,h.Il⟩
  rcases List.mem_append.1 hq with hq | hq
  ·exact h.good q hq
  ·rw [List.mem_singleton.1 hq]; exact hp
 ·exact h
theorem Jd (L:Lk) (p:BL):(emit_ L p).phase = L.phase:=by unfold emit_; split <;> rfl
theorem Je {L:Lk} (h:L.Fine) (ht:L.token < 4294967295):(Dj L).Fine:=by
 have:=h.ok.token
 exact ⟨JS h.ok ht,h.own,h.good,fun _ => by show 0 < L.token + 1; omega,fun x => (by cases x),fun x => absurd (show (1:Int) = 2 from x) (by decide),fun r hr => (by cases hr),fun _ => rfl⟩
theorem KF {L:Lk} (h:L.Fine):(EE L).Fine:=by
 have:=h.ok.token
 unfold EE
 split
 ·rename_i hc
  have hb:=Je h (by omega)
  exact EN hb (Et hb (show (1:Int) ≠ 0 by decide))
 ·exact h
theorem KG {L:Lk} (h:L.Fine):(ET L).Fine :=
 ⟨LG h.ok,h.own,h.good,fun x => absurd rfl x,fun x => (by cases x),fun x => absurd (show (0:Int) = 2 from x) (by decide),fun r hr => (by cases hr),fun _ => rfl⟩
theorem TI {L:Lk} (h:L.Fine):(TB L).Fine:=⟨Uz h.ok,h.own,fun p hp => (by cases hp),h.tok,h.peer,h.up,h.full,h.Il⟩
theorem QY {L:Lk} (h:L.Fine) (hd:L.sent < L.queue.length) (h8:L.sent < 8) (d:Int) (hdd:0 ≤ d ∧ d ≤ 1000):({ L with idle:=d,sent:=L.sent + 1 }:Lk).Fine :=
 ⟨JA h.ok hd h8 d hdd,h.own,h.good,h.tok,h.peer,h.up,h.full,h.Il⟩
theorem MR {L:Lk} (h:L.Fine) (hd:L.sent < L.queue.length):L.phase = 2:=by
 have:=h.ok.sent
 by_cases hp:L.phase = 2
 ·exact hp
 ·rw [h.Il hp] at hd; exact absurd hd (by simp; omega)
theorem LV {L:Lk} (h:L.Fine) (hd:L.sent < L.queue.length) (h8:L.sent < 8):(Dl L).Fine:=by
 have hs:=h.ok.sent
 have hu:=MR h hd
 have hf:=QY h hd h8 (if L.sent = 0 then 0 else L.idle) (by have:=h.ok.idle; split <;> omega)
 exact EN hf (QX h hu L.sent hs.1 hd)
theorem OQ (n:Nat) {L:Lk} (h:L.Fine):(EJ n L).Fine:=by
 induction n generalizing L with
 | zero => exact h
 | succ n ih =>
  unfold EJ
  split
  ·rename_i hc; exact ih (LV h hc.1 hc.2)
  ·exact h
theorem KH {L:Lk} (h:L.Fine):(BP L).Fine:=OQ _ h
theorem OT {L:Lk} (h:L.Fine) (body:List Int):(D6 L body).Fine:=by
 unfold D6
 split
 ·rename_i hc
  have hx:L.phase = 2 ∧ ¬ (body.length = 0 ∨ 1000 < body.length) ∧ L.queue.length < 64:=by
   unfold Dq at hc
   split at hc
   ·split at hc
    ·exact absurd hc (by decide)
    ·split at hc
     ·exact absurd hc (by decide)
     ·rename_i a b c; exact ⟨a,b,by omega⟩
   ·exact absurd hc (by decide)
  refine KH ⟨MG h.ok (by omega) hx.2.2,h.own,h.good,h.tok,h.peer,h.up,fun r hr => ?_,fun hp => absurd hx.1 hp⟩
  rcases List.mem_append.1 hr with hr | hr
  ·exact h.full r hr
  ·rw [List.mem_singleton.1 hr]; omega
 ·exact h
theorem KI {L:Lk} (h:L.Fine) (hq:L.queue = []) {b:Int} (hb:0 < b ∧ b < 4294967296) {p:BL} (hp:p.Good):(Ik L b p).Fine :=
 ⟨JD h.ok (by omega) hp.YA.mine true,h.own,h.good,h.tok,fun _ => ⟨hb.1,(OM hp).1⟩,fun _ => rfl,h.full,h.Il⟩
theorem QZ {L:Lk} (h:L.Fine):(BB L).Fine:=⟨JC h.ok,h.own,h.good,h.tok,h.peer,h.up,h.full,h.Il⟩
theorem TJ {L:Lk} (h:L.Fine) {k:Nat} (hk:(k:Int) ≤ L.sent):(Cb L k).Fine :=
 ⟨IU h.ok hk,h.own,h.good,h.tok,h.peer,h.up,fun r hr => h.full r (List.mem_of_mem_drop hr),fun hp => by show L.queue.drop k = []; rw [h.Il hp]; simp⟩
theorem MS (n:Nat) (L:Lk):(EJ n L).phase = L.phase:=by
 induction n generalizing L with
 | zero => rfl
 | succ n ih =>
  unfold EJ
  split
  ·rw [ih]; exact Jd _ _
  ·rfl
theorem MV {L:Lk} (h:L.Fine) (p:BL):(KA L p).Fine:=by unfold KA; split; exact QZ h; exact h
theorem TK (L:Lk) (p:BL):(KA L p).sent = L.sent:=by unfold KA; split <;> rfl
theorem KJ (L:Lk) (p:BL):(KA L p).phase = L.phase:=by unfold KA; split <;> rfl
theorem Qa (L:Lk) (p:BL):(QM L p).phase = L.phase:=by
 unfold QM
 split
 ·exact (MS _ _).trans (KJ L p)
 ·exact KJ L p
theorem Jf {L:Lk} (h:L.Fine) (p:BL):(QM L p).Fine:=by
 unfold QM
 split
 ·rename_i hc; exact KH (TJ (MV h p) (by rw [TK]; exact hc.2))
 ·exact MV h p
theorem Qb {L:Lk} (h:L.Fine) {b:Int} (hb:0 < b ∧ b < 4294967296) {p:BL} (hp:p.Good):(BO L b p).1.Fine:=by
 have ht:=h.ok.token
 have DX:=h.ok.phase
 unfold BO
 split
 ·exact h
 rename_i h0
 split
 ·split
  ·rename_i h1
   have hq:=h.Il (by omega)
   have hf:=KI h hq hb hp
   split
   ·have hf2:({ Ik L b p with phase:=2 }:Lk).Fine:=⟨MH hf.ok (by decide),hf.own,hf.good,fun _ => hf.tok (by show L.phase ≠ 0; omega),hf.peer,fun _ => rfl,hf.full,fun x => absurd rfl x⟩
    exact EN hf2 (Et hf2 (show (2:Int) ≠ 0 by decide))
   ·exact EN hf (Et hf (show L.phase ≠ 0 by omega))
  ·split
   ·show (if p.seq = 0 then emit_ L (Cf L) else L).Fine
    split
    ·exact EN h (Et h (fun x => h0 (.inl x)))
    ·exact h
   ·split
    ·exact KG h
    ·rename_i hmx
     have hf:=KI (Je h (by omega)) rfl hb hp
     exact EN hf (Et hf (show (1:Int) ≠ 0 by decide))
 ·split
  ·rename_i hu
   show (UD L p).Fine
   unfold UD
   split
   ·exact EN (Jf h p) (TF (Jf h p) ((Qa L p).trans hu.1))
   ·exact Jf h p
  ·exact h
end Go.Proofs.Ytnkkgofpifhoeaa.Lk
end
section
namespace Go.Proofs.Ytnkkgofpifhoeaa.Pr
open Go.RowKit Go.Proofs.Ytnkkgofpifhoeaa.Lk Go.Proofs.YtnkkgofpifhoeaaW.PrintWords
end Go.Proofs.Ytnkkgofpifhoeaa.Pr
end
section
namespace Go.Proofs.Ytnkkgofpifhoeaa.Rf
open Go.RowKit Go.Proofs.Ytnkkgofpifhoeaa.Base Go.Proofs.Ytnkkgofpifhoeaa.Steps Go.Proofs.Ytnkkgofpifhoeaa.Lk Go.Proofs.YtnkkgofpifhoeaaW.PrintWords Go.Proofs.YtnkkgofpifhoeaaW.PrintLast
section
variable {P:Program} {ops:Array Oper} {md:Region.Mode} {Q:Exit → Act → World → Prop} {S:World → Prop} {ds:List Nat}
theorem row_step {oi:Oper} {a:Act} {w:World} {K:Act → World → Prop} (hw:Region.wanted oi (yielded ops a.tmps) = true) (hN:oi.dst = none) (ty:TypeId) (x y:Operand) (ho:oi.op = .store ty x y) (g:Nat) (cells:Array Value) (hx:a.eval x = .pointer (some ⟨g,0,none⟩)) (hy:a.eval y = .agg cells)
  (t:TypeId) (old:Array Value) (hg:w.heap[g]? = some (.cells old t (0,0))) (hi:(P.info? ty).map (·.size) = some cells.size) (hold:old.size = cells.size) (h1:cells.all (·.oneCell') = true)
  (k:∀ w1,w1.heap[g]? = some (.cells cells t (0,0)) → Steps.At g w w1 → K a w1):if Region.wanted oi (yielded ops a.tmps) = true then Oper.wp P oi a w K Q else K (a.put none undef) w:=by
 rw [if_pos hw]
 refine wp_store_row ty x y ho g cells hx hy t old hg hi hold h1 ?_
 rw [hN]
 exact k _ (JO hg) (J7 g w cells)
end
end Go.Proofs.Ytnkkgofpifhoeaa.Rf
end
section
namespace Go.Proofs.Ytnkkgofpifhoeaa.Lk
open Go.RowKit Go.Proofs.Ytnkkgofpifhoeaa.Base Go.Proofs.Ytnkkgofpifhoeaa.Steps Go.Proofs.YtnkkgofpifhoeaaW.PrintWords Go.Proofs.YtnkkgofpifhoeaaW.PrintLast
theorem TL (W:World):(Kd.int .u8).C (W.alloc (.cells #[.int .u8 120] 5 (1,2))) (some ⟨W.heap.size,0,none⟩) 1 [120]:=by
 refine ⟨rfl,by decide,fun _ => ⟨_,rfl,fun j p hj => ⟨[.int .u8 p],rfl,rfl,fun i u hu => ?_⟩⟩⟩
 have hj0:j = 0:=by
  by_cases h:j = 0
  ·exact h
  ·rw [List.getElem?_eq_none (by simp; omega)] at hj; cases hj
 subst hj0
 have hi0:i = 0:=by
  by_cases h:i = 0
  ·exact h
  ·rw [List.getElem?_eq_none (by simp; omega)] at hu; cases hu
 subst hi0
 have hp:(120:Int) = p:=Option.some.inj hj
 subst hp
 have hu':Value.int .u8 120 = u:=Option.some.inj hu
 subst hu'
 exact World.cell?_alloc_mark W #[.int .u8 120] 5 (1,2) 0
end Go.Proofs.Ytnkkgofpifhoeaa.Lk
end
section
namespace Go.Proofs.Ytnkkgofpifhoeaa.Rf
open Go.RowKit Go.Proofs.Ytnkkgofpifhoeaa.Base Go.Proofs.Ytnkkgofpifhoeaa.Steps Go.Proofs.Ytnkkgofpifhoeaa.Lk Go.Proofs.YtnkkgofpifhoeaaW.PrintWords Go.Proofs.YtnkkgofpifhoeaaW.PrintLast
theorem Qc {w:World} {b:Nat} {c:Array Value} {t:TypeId} (hb:w.heap[b]? = some (.cells c t (0,0))) {o n:Nat} (hl:o + n ≤ c.size):w.there b o n:=fun j hj => ⟨by
 rw [AA hb (o + j),Array.getElem?_eq_getElem (show o + j < c.size by omega)]; rfl,AB hb (o + j)⟩
section
variable {P:Program} {ops:Array Oper} {Q:Exit → Act → World → Prop} {rest:List Oper} {o:Oper} {a:Act} {w W:World} {bs:List (Nat × Nat)} {cs:List (Array Value)}
theorem LW (ty:TypeId) (ad:Addr) (v:Value) (h:v.cells = #[v]):storeVar ty ad v = storeVar ty ad (.agg #[v]):=by
 unfold storeVar
 rw [h]
 rfl
theorem LX {o:Oper} {a:Act} {w:World} {K:Act → World → Prop} {Q:Exit → Act → World → Prop} (ty:TypeId) (x y:Operand) (ho:o.op = .store ty x y) (b j:Nat) (v:Value) (hx:a.eval x = .pointer (some ⟨b,j,none⟩)) (hy:a.eval y = v) (hv:v.cells = #[v]) (ht:w.there b j 1) (hi:(P.info? ty).map (·.size) = some 1) (h1:v.oneCell' = true) (h:K (a.put o.dst undef) (w.setCell ⟨b,j,none⟩ v)):o.wp P a w K Q:=by
 have hr:=run_storeVar_mid (P:=P) w b j ty #[v] ht hi (by simp [h1])
 rw [← LW ty _ v hv] at hr
 unfold Oper.wp execOp
 simp only [ho,hx,hy,Instr.storeAt,Instr.sureAddr,Sem.run_bind,Sem.run_pure,Result.andThen_ok,hr]
 exact h
end
end Go.Proofs.Ytnkkgofpifhoeaa.Rf
end
section
namespace Go.Proofs.Ytnkkgofpifhoeaa.Pe
open Go.RowKit Go.Proofs.Ytnkkgofpifhoeaa.Base Go.Proofs.Ytnkkgofpifhoeaa.Steps Go.Proofs.Ytnkkgofpifhoeaa.Lk Go.Proofs.YtnkkgofpifhoeaaW.PrintWords Go.Proofs.YtnkkgofpifhoeaaW.PrintLast
def ZS (w:World) (B gp:Nat) (n:Int) (a:Ad) (own:Nat → Nat → Prop) (X:Ps) (g7 gk:Nat) (r7 rk:Array Value) (vb:Value) (body:List Int) (Y:Ps) (wz:World):Prop :=
 ∃ own' v',BX wz B gp n a own' Y v' ∧ (∀ i k,own' i k → own i k ∨ w.heap.size ≤ k) ∧ Kept w wz (Al X a gp own) ∧ Below B w wz ∧ (Y.me = X.me ∧ Y.nodes = X.nodes) ∧
  (∃ okb,(Kd.int .u8).R 5 wz B okb vb body ∧ ∀ j,okb j → ¬ Al Y a gp own' j) ∧ (wz.heap[g7]? = some (.cells r7 56 (0,0)) ∧ ¬ Al Y a gp own' g7) ∧ (wz.heap[gk]? = some (.cells rk 27 (0,0)) ∧ ¬ Al Y a gp own' gk)
section
variable {w wz w2:World} {B gp:Nat} {n:Int} {a:Ad} {own:Nat → Nat → Prop} {X Y Z:Ps} {g7 gk:Nat} {r7 rk:Array Value} {vb:Value} {body:List Int}
theorem ZS.mv (h:ZS w B gp n a own X g7 gk r7 rk vb body Y wz):Mv w B gp n a own X Y wz:=by
 obtain ⟨own',v',h1,h2,h3,h4,h5,_⟩:=h
 exact ⟨own',v',h1,h2,h3,h4,h5⟩
theorem ZS.of {own':Nat → Nat → Prop} {v':Value} {okb:Nat → Prop} (h1:BX wz B gp n a own' Y v') (h2:∀ i k,own' i k → own i k ∨ w.heap.size ≤ k) (h3:Kept w wz (Al X a gp own)) (h4:Below B w wz) (h5:Y.me = X.me ∧ Y.nodes = X.nodes) (h6:(Kd.int .u8).R 5 wz B okb vb body) (h7:∀ j,okb j → ¬ Al Y a gp own' j) (h8:wz.heap[g7]? = some (.cells r7 56 (0,0)) ∧ ¬ Al Y a gp own' g7) (h9:wz.heap[gk]? = some (.cells rk 27 (0,0)) ∧ ¬ Al Y a gp own' gk)
  (hg:Mv wz B gp n a own' Y Z w2):ZS w B gp n a own X g7 gk r7 rk vb body Z w2:=by
 obtain ⟨MP,v2,g1,g2,g3,g4,g5⟩:=hg
 have hal:∀ j,j < wz.heap.size → ¬ Al Y a gp own' j → ¬ Al Z a gp MP j:=fun j hj hn hz => (Jc g5 g2 j hz).elim hn (fun h => by omega)
 refine ⟨MP,v2,g1,fun i k hk => (g2 i k hk).elim (h2 i k) (fun h => .inr (Nat.le_trans h3.1 h)),h3.Dp g3 (Jc h5 h2),h4.trans g4,⟨g5.1.trans h5.1,g5.2.trans h5.2⟩,⟨fun j => okb j ∧ j < wz.heap.size,Kd.Az (Kd.BJ (Kd.CG h6) g3 (fun j hj => h7 j hj.1)) (fun j hj => ⟨hj.1,hj.2.2.1⟩),fun j hj => hal j hj.2 (h7 j hj.1)⟩,⟨Ah h8.1 g3 h8.2,hal g7 (AU h8.1) h8.2⟩,⟨Ah h9.1 g3 h9.2,hal gk (AU h9.1) h9.2⟩⟩
theorem ZS.tell (h:ZS w B gp n a own X g7 gk r7 rk vb body Y wz) (k:Nat) (up:Bool) (hl:Y.evs.length ≤ 1000000):Calls Try.prog 120 #[.pointer (some ⟨gp,0,none⟩),.int .i64 k,.bool up] wz fun e w' => e = .returned (.tuple #[]) ∧ ZS w B gp n a own X g7 gk r7 rk vb body (Fa Y k up) w':=by
 obtain ⟨own',v',h1,h2,h3,h4,h5,⟨okb,h6,h7⟩,h8,h9⟩:=h
 exact (PO h1 k up hl).mono fun e w' hq => ⟨hq.1,ZS.of h1 h2 h3 h4 h5 h6 h7 h8 h9 hq.2⟩
theorem Mv.WS {own':Nat → Nat → Prop} {v':Value} (h:BX wz B gp n a own' Y v') {k:Nat} (hx:Y.has k) {x:Pn} (he:x.e = (Y.pn k).e) (hA:Steps.At (a.gx k) wz w2) (hb:w2.heap[a.gx k]? = some (.cells (IB (a.ge k) x) 172 (0,0))):Mv wz B gp n a own' Y (Y.set k x) w2 :=
 ⟨own',v',h.WS hx he hA hb,fun _ _ h => .inl h,⟨Nat.le_of_eq hA.size.symm,fun i _ hs => hA.block i (fun e => hs (.inl (.inr (.inr ⟨k,hx,e⟩))))⟩,hA.below (Below.refl _ _) (h.low _ (.inr (.inr ⟨k,hx,rfl⟩))),rfl,rfl⟩
theorem ZS.cell (h:ZS w B gp n a own X g7 gk r7 rk vb body Y wz) (j:Nat):wz.cell? ⟨g7,j,none⟩ = r7[j]?:=by
 obtain ⟨own',v',h1,h2,h3,h4,h5,⟨okb,h6,h7⟩,h8,h9⟩:=h
 exact AA h8.1 j
theorem ZS.KL (h:ZS w B gp n a own X g7 gk r7 rk vb body Y wz) (j:Nat):wz.cell? ⟨gk,j,none⟩ = rk[j]?:=by
 obtain ⟨own',v',h1,h2,h3,h4,h5,⟨okb,h6,h7⟩,h8,h9⟩:=h
 exact AA h9.1 j
theorem ZS.row (h:ZS w B gp n a own X g7 gk r7 rk vb body Y wz):∃ okb,(Kd.int .u8).R 5 wz B okb vb body:=by
 obtain ⟨own',v',h1,h2,h3,h4,h5,⟨okb,h6,h7⟩,h8,h9⟩:=h
 exact ⟨okb,h6⟩
theorem ZS.store {ops:Array Oper} {Q:Exit → Act → World → Prop} {rest:List Oper} {o:Oper} {ac:Act} (h:ZS w B gp n a own X g7 gk r7 rk vb body Y wz) {k:Nat} (hx:X.has k) (hgd:o.guard = none) (hN:o.dst = none) (ty:TypeId) (x y:Operand) (ho:o.op = .store ty x y) (j:Nat) (val:Value) (hxv:ac.eval x = .pointer (some ⟨a.gx k,j,none⟩)) (hy:ac.eval y = val) (hv:val.cells = #[val]) (hj:j < 3) (hi:(Try.prog.info? ty).map (·.size) = some 1) (h1:val.oneCell' = true)
  (x':Pn) (hrow:(IB (a.ge k) (Y.pn k)).setIfInBounds j val = IB (a.ge k) x') (he:x'.e = (Y.pn k).e) (kk:∀ W',ZS w B gp n a own X g7 gk r7 rk vb body (Y.set k x') W' → wpList Try.prog ops Q rest ac W'):wpList Try.prog ops Q (o :: rest) ac wz:=by
 obtain ⟨own',v',h1',h2,h3,h4,h5,⟨okb,h6,h7⟩,h8,h9⟩:=h
 have hy':Y.has k:=by unfold Ps.has; rw [h5.1,h5.2]; exact hx
 have hb:=h1'.pk k hy'
 refine wpList_plain hgd fun _ hK => Rf.LX ty x y ho (a.gx k) j val hxv hy hv (Rf.Qc hb (show j + 1 ≤ 3 by omega)) hi h1 (hK _ _ ?_)
 rw [hN]
 exact kk _ (ZS.of h1' h2 h3 h4 h5 h6 h7 h8 h9 (Mv.WS h1' hy' he (Steps.At.set (Steps.At.refl _ _) _ _) (hrow ▸ AQ hb j val rfl)))
theorem TV.zs {w4 w9 w10:World} {v:Value} {k:Nat} {L:Lk} {TE r7 rk:Array Value} {o' okb:Nat → Prop} (hP:BX w B gp n a own X v) (hW:Below w.heap.size w w4) (h:TV w4 B gp n a own X v k L vb body g7 TE o' okb w9) (hA:Steps.At g7 w9 w10) (hb:w10.heap[g7]? = some (.cells r7 56 (0,0))) (hk:w9.heap[gk]? = some (.cells rk 27 (0,0))) (hgk:w.heap.size ≤ gk ∧ gk < w4.heap.size):ZS w B gp n a own X g7 gk r7 rk vb body (X.CV k L) w10:=by
 have hz:=hW.size
 have hkk:Kept w9 w10 (fun j => j = g7):=⟨Nat.le_of_eq hA.size.symm,fun i _ hs => hA.block i hs⟩
 have hal:∀ j,Al (X.CV k L) a gp (upd own (k + 1) o') j → j < w.heap.size ∨ o' j:=fun j hj => by
  rcases hj with hj | ⟨i,hi⟩
  ·exact .inl (hP.MO j hj)
  ·unfold upd at hi
   by_cases hik:i = k + 1
   ·rw [if_pos hik] at hi; exact .inr hi
   ·rw [if_neg hik] at hi; exact .inl (hP.lt i j hi)
 have jl:∀ j,Al (X.CV k L) a gp (upd own (k + 1) o') j → ¬ j = g7:=fun j hj he => by
  subst he
  have h7:=h.n7
  exact (hal j hj).elim (fun h => by omega) h7.2
 have hin:∀ j,o' j → own (k + 1) j ∨ w4.heap.size ≤ j:=h.YL
 refine ⟨_,v,h.at_.kept hkk jl,fun i j hi => ?_,((Kept.of_below hW _).Dp h.kept (fun j hj => .inl (.inr ⟨_,hj⟩))).Dp hkk (fun j hj => .inr (by have:=h.n7.1; omega)),((hW.mono hP.hB).trans h.below).trans (hA.below (Below.refl _ _) (by have:=h.n7.1; have:=hP.hB; omega)),⟨rfl,rfl⟩,⟨okb,Kd.BJ h.row hkk (fun j hj => (h.far j hj).2.2),fun j hj hx => (hal j hx).elim (fun h1 => by have:=(h.far j hj).1; omega) (h.far j hj).2.1⟩,⟨hb,fun hx => jl _ hx rfl⟩,⟨(hA.block gk (by have:=h.n7.1; omega)).trans hk,fun hx => (hal gk hx).elim (fun h1 => by omega) (fun h1 => (hin gk h1).elim (fun h2 => by have:=hP.lt _ _ h2; omega) (fun h2 => by omega))⟩⟩
 unfold upd at hi
 by_cases hik:i = k + 1
 ·rw [if_pos hik] at hi
  subst hik
  exact (hin j hi).imp_right (fun h => by omega)
 ·rw [if_neg hik] at hi
  exact .inl hi
end
theorem WX {w:World} {B gp:Nat} {n:Int} {a:Ad} {own:Nat → Nat → Prop} {X:Ps} {v:Value} (h:BX w B gp n a own X v) (k:Nat) (hx:X.has k) (hok:(X.pn k).e.Ok) (hl:X.evs.length ≤ 999990) (AL:Int) (hb:0 < AL ∧ AL < 4294967296) (p:BL) (hp:Iy p) (hk4:p.kind ≠ 4) (A:Option Addr) (c:Nat) (hC:(Kd.int .u8).C w A (EX p).length (EX p)) (hc:(EX p).length ≤ c) (hby:Pk.BV (EX p)) :
  Calls Try.prog 94 #[.pointer (some ⟨gp,0,none⟩),.int .i64 k,.int .u32 AL,.slice A (EX p).length c] w fun e w' => ∃ A7 c7 okb,e = .returned (.tuple #[.slice A7 (BO (X.pn k).e AL p).2.body.length c7,.int .i64 0]) ∧ (Kd.int .u8).R 5 w' B okb (.slice A7 (BO (X.pn k).e AL p).2.body.length c7) (BO (X.pn k).e AL p).2.body ∧ Mv w B gp n a own X (FB X k AL p) w':=by
 have hc3:w.cell? ⟨gp,3,none⟩ = some (.map (some a.r)):=(AA h.blk 3).trans rfl
 have hlk:=h.map.look k
 rw [Ps.IX hx] at hlk
 simp only [ptr,Option.isSome] at hlk
 have hbz:(AL == 0) = false:=by simp; omega
 have jm:=Lib.hid (fun w1 (hw1:Below w.heap.size w w1) => Pk.Np A c (EX p) w1 (Kd.BK hC hw1) hc hby)
 have YM:=Lib.hid (Si hp)
 have H:=Lib.hid h
 have HX:=Lib.hid hx
 have XT:=Lib.hid hok
 have HL:=Lib.hid hl
 have aV:=Lib.hid hb
 have qm:=Lib.hid hp
 have hq4:(p.kind == 4) = false:=by simp [hk4]
 generalize hnl:(EX p).length = nl at *
 clear h hx hok hl hb hp hk4 hC hc hby hnl
 go_enter Try.func94,Try.ntmps94
 go_wp2_with (first | (go_at_call 16; (have hz:=jm.out w (Below.refl _ _)); (with_reducible refine hz.mono ?_); clear hz; rintro e w3 ⟨v3,rfl,Vz,hb3⟩; (rw [YM.out.2] at Vz ⊢); (rw [YM.out.1]); (obtain ⟨Ab,cb,hv3⟩:=Kd.BA Vz); (generalize hnb:(WI p).body.length = nb at hv3); (have VO:=Lib.hid hnb); (subst hv3); (have HR3:=Lib.hid Vz); (have HB3:=Lib.hid hb3); (clear Vz hb3 hnb); (have HZ3:=Lib.hid (heap_alloc_new w3 (.cells #[.int .i64 0,.int .u32 0,.int .u32 0,.int .u32 0,.int .u32 0,.int .u32 0,.int .u32 0,.int .u32 0,.complex .f64 0 0,.slice none 0 0] 27)))) | ((with_reducible refine gate_ (.store 27 (.tmp 12) (.tmp 34)) rfl ?_); (refine Ae rfl rfl 27 (.tmp 12) (.tmp 34) rfl w3.heap.size #[.int .i64 p.kind,.int .u32 p.mine,.int .u32 p.AL,.int .u32 p.yours,.int .u32 p.seq,.int .u32 p.AX,.int .u32 p.stamp,.int .u32 p.echo,.complex .f64 p.zr p.zi,.slice Ab nb cb] rfl rfl 27 _ HZ3.out (by kernel_rfl) rfl (by kernel_rfl) ?_); (intro w4 hb4 YN); (have HB4:=Lib.hid hb4); (have Rz:=Lib.hid (YN.below ((Below.refl w3.heap.size w3).alloc (Nat.le_refl _) _) (Nat.le_refl _))); (clear hb4 YN)))
 obtain ⟨⟨L',⟨hdb,XV,XW,body⟩⟩,htf⟩:∃ x,x = BO (X.pn k).e AL p:=⟨_,rfl⟩
 have aW:=Lib.hid htf.symm
 clear htf
 have MF:=Lib.hid (HB3.out.trans (Rz.out.mono HB3.out.size))
 have U4:=Lib.hid (H.out.sub MF.out)
 have VK:=Lib.hid (fun W (hW:Below w4.heap.size w4 W) => SY ((U4.out.sub hW).e k HX.out) (U4.out.sub hW).hB XT.out AL p aV.out qm.out.good (C9:=fun j => w.heap.size ≤ j) (F6.2 ⟨_,rfl,Kd.Gf (Kd.Az (Kd.CG (Kd.Dk (Kd.Dk HR3.out Rz.out) hW)) (fun j hj => hj.2.1)) H.out.hB⟩) (fun j hj hy => by have:=H.out.lt _ j hy; omega))
 have hbd:=Am (Below.refl w4.heap.size w4)
 have hSS:w4.drew.heap[a.gx k]? = some (.cells (IB (a.ge k) (X.pn k)) 172 (0,0)) ∧ w4.drew.heap[w3.heap.size]? = some (.cells #[.int .i64 p.kind,.int .u32 p.mine,.int .u32 p.AL,.int .u32 p.yours,.int .u32 p.seq,.int .u32 p.AX,.int .u32 p.stamp,.int .u32 p.echo,.complex .f64 p.zr p.zi,.slice Ab nb cb] 27 (0,0)):=⟨(U4.out.sub hbd).pk k HX.out,HB4.out⟩
 refine BC (n:=13) (S:=fun w' => w'.heap[a.gx k]? = some (.cells (IB (a.ge k) (X.pn k)) 172 (0,0)) ∧ w'.heap[w3.heap.size]? = some (.cells #[.int .i64 p.kind,.int .u32 p.mine,.int .u32 p.AL,.int .u32 p.yours,.int .u32 p.seq,.int .u32 p.AX,.int .u32 p.stamp,.int .u32 p.echo,.complex .f64 p.zr p.zi,.slice Ab nb cb] 27 (0,0))) (ds:=[11]) nK (by kernel_rfl) rfl rfl (hSS) (fun hHeld => ?_)
 generalize w4.drew = w6 at hbd hHeld ⊢
 have Jy:=Lib.hid hbd
 clear hbd
 refine pu 0 40 nM ?_
 refine pu 1 41 nN ?_
 refine pu 2 42 nO ?_
 refine tk 3 43 nP hHeld ?_ (hf:=by intro w' s0; have hc0:w'.cell? ⟨a.gx k,0,none⟩ = some (.pointer (some ⟨a.ge k,0,none⟩)):=(AA s0.1 0).trans rfl; clear s0; go_simp; rfl)
 refine pu 4 44 nR ?_
 refine tk 5 45 nS hHeld ?_ (hf:=by intro w' s0; have DV:=Try.underlying27; have hd0:w'.cell? ⟨w3.heap.size,0,none⟩ = some (.int .i64 p.kind):=(AA s0.2 0).trans rfl; have hd1:w'.cell? ⟨w3.heap.size,1,none⟩ = some (.int .u32 p.mine):=(AA s0.2 1).trans rfl; have hd2:w'.cell? ⟨w3.heap.size,2,none⟩ = some (.int .u32 p.AL):=(AA s0.2 2).trans rfl; have hd3:w'.cell? ⟨w3.heap.size,3,none⟩ = some (.int .u32 p.yours):=(AA s0.2 3).trans rfl; have hd4:w'.cell? ⟨w3.heap.size,4,none⟩ = some (.int .u32 p.seq):=(AA s0.2 4).trans rfl; have hd5:w'.cell? ⟨w3.heap.size,5,none⟩ = some (.int .u32 p.AX):=(AA s0.2 5).trans rfl; have hd6:w'.cell? ⟨w3.heap.size,6,none⟩ = some (.int .u32 p.stamp):=(AA s0.2 6).trans rfl; have hd7:w'.cell? ⟨w3.heap.size,7,none⟩ = some (.int .u32 p.echo):=(AA s0.2 7).trans rfl; have hd8:w'.cell? ⟨w3.heap.size,8,none⟩ = some (.complex .f64 p.zr p.zi):=(AA s0.2 8).trans rfl; have hd9:w'.cell? ⟨w3.heap.size,9,none⟩ = some (.slice Ab nb cb):=(AA s0.2 9).trans rfl; clear s0; go_simp; try rfl)
 refine Dv (σ:=Nat × Option Addr × Nat) 2 bW (fun s => [(46,.tuple #[.agg #[.bool hdb,.bool XV,.bool XW,.slice s.2.1 body.length s.2.2],.int .i64 0]),(39,.tuple #[.agg #[.bool hdb,.bool XV,.bool XW,.slice s.2.1 body.length s.2.2],.int .i64 0]),(47,.agg #[.bool hdb,.bool XV,.bool XW,.slice s.2.1 body.length s.2.2]),(48,.int .i64 0),(14,.pointer (some ⟨s.1,0,none⟩))]) (fun s w' => (∃ o' okb,TV w4 B gp n a own X v k L' (.slice s.2.1 body.length s.2.2) body s.1 #[.bool false,.bool false,.bool false,.slice none 0 0] o' okb w') ∧ w'.heap[w3.heap.size]? = some (.cells #[.int .i64 p.kind,.int .u32 p.mine,.int .u32 p.AL,.int .u32 p.yours,.int .u32 p.seq,.int .u32 p.AX,.int .u32 p.stamp,.int .u32 p.echo,.complex .f64 p.zr p.zi,.slice Ab nb cb] 27 (0,0))) ?_ ?_
 rotate_left
 ·intro hcont
  refine P6 (i:=6) (j:=10) (Ni:=some 46) (Nj:=some 14) nT nU rfl rfl rfl rfl (by kernel_rfl) (by decide) (by decide) (fun K hK => ?_) (fun K hK => ?_)
  ·skip
   refine BR Try.func34 (by kernel_rfl) rfl #[.pointer (some ⟨a.ge k,0,none⟩),.int .u32 AL,.agg #[.int .i64 p.kind,.int .u32 p.mine,.int .u32 p.AL,.int .u32 p.yours,.int .u32 p.seq,.int .u32 p.AX,.int .u32 p.stamp,.int .u32 p.echo,.complex .f64 p.zr p.zi,.slice Ab nb cb]] (by rfl) rfl rfl (by (try simp only [List.map_toArray,List.map_cons,List.map_nil]); first | done | rfl) ?_
   have hz:Calls Try.prog 34 #[.pointer (some ⟨a.ge k,0,none⟩),.int .u32 AL,.agg #[.int .i64 p.kind,.int .u32 p.mine,.int .u32 p.AL,.int .u32 p.yours,.int .u32 p.seq,.int .u32 p.AX,.int .u32 p.stamp,.int .u32 p.echo,.complex .f64 p.zr p.zi,.slice Ab nb cb]] w6 _:=VK.out w6 Jy.out
   refine hz.mono ?_
   clear hz
   intro e w7 Qp
   rw [aW.out] at Qp
   have hK7:=(EW.turns Qp).2.1
   obtain ⟨A7,c7,eX,o',okb,hT0⟩:=T0.of U4.out HX.out Jy.out Qp
   subst eX
   have HT0:=Lib.hid hT0
   refine ⟨_,rfl,?_⟩
   have hS7:w7.heap[a.gx k]? = some (.cells (IB (a.ge k) (X.pn k)) 172 (0,0)) ∧ w7.heap[w3.heap.size]? = some (.cells #[.int .i64 p.kind,.int .u32 p.mine,.int .u32 p.AL,.int .u32 p.yours,.int .u32 p.seq,.int .u32 p.AX,.int .u32 p.stamp,.int .u32 p.echo,.complex .f64 p.zr p.zi,.slice Ab nb cb] 27 (0,0)):=⟨Ah hHeld.1 hK7 (fun hx => U4.out.apart _ _ hx (.inr (.inr ⟨k,HX.out,rfl⟩))),Ah hHeld.2 hK7 (fun hx => by have:=H.out.lt _ _ hx; have:=HB3.out.size; omega)⟩
   clear Qp hT0 hK7 hHeld
   refine hK.out _ _ hS7 (fun hHeld => ?_)
   clear hK K hS7
   refine nm 46 ?_
   refine pu 7 39 nV ?_
   refine pu 8 47 nY ?_
   refine pu 9 48 ng ?_
   refine on 10 (some 14) bW fun K hK => ?_
   refine Dy (by rfl) (N:=14) rfl (cs:=#[.bool false,.bool false,.bool false,.slice none 0 0]) (t:=56) (by first | (go_simp; done) | (go_simp; rfl)) ?_
   intro g7 aX w8 hbx hb8
   have YO:w8.heap[a.gx k]? = some (.cells (IB (a.ge k) (X.pn k)) 172 (0,0)) ∧ w8.heap[w3.heap.size]? = some (.cells #[.int .i64 p.kind,.int .u32 p.mine,.int .u32 p.AL,.int .u32 p.yours,.int .u32 p.seq,.int .u32 p.AX,.int .u32 p.stamp,.int .u32 p.echo,.complex .f64 p.zr p.zi,.slice Ab nb cb] 27 (0,0)):=⟨(hb8.block _ (AU hHeld.1)).trans hHeld.1,(hb8.block _ (AU hHeld.2)).trans hHeld.2⟩
   have qo:=Lib.hid (HT0.out.alloc (TE:=#[.bool false,.bool false,.bool false,.slice none 0 0]) (Nat.le_of_eq aX.symm) hbx hb8)
   clear hbx hb8 hHeld aX
   refine hK.out _ _ YO (fun hHeld => ?_)
   clear hK K YO
   refine nm 14 ?_
   have h9:=hcont (g7,A7,c7) _ ⟨⟨_,_,qo.out⟩,hHeld.2⟩
   simp only [Ak,Act.put,sA,sZ,sS] at h9
   exact h9
  ·skip
   refine Dy (by rfl) (N:=14) rfl (cs:=#[.bool false,.bool false,.bool false,.slice none 0 0]) (t:=56) (by first | (go_simp; done) | (go_simp; rfl)) ?_
   intro g7 aX w8 hbx hb8
   have YO:w8.heap[a.gx k]? = some (.cells (IB (a.ge k) (X.pn k)) 172 (0,0)) ∧ w8.heap[w3.heap.size]? = some (.cells #[.int .i64 p.kind,.int .u32 p.mine,.int .u32 p.AL,.int .u32 p.yours,.int .u32 p.seq,.int .u32 p.AX,.int .u32 p.stamp,.int .u32 p.echo,.complex .f64 p.zr p.zi,.slice Ab nb cb] 27 (0,0)):=⟨(hb8.block _ (AU hHeld.1)).trans hHeld.1,(hb8.block _ (AU hHeld.2)).trans hHeld.2⟩
   have eY:=Lib.hid hbx
   have WV:=Lib.hid hb8
   have jo:=Lib.hid (show ¬ own (k + 1) g7 from fun hx => by have:=U4.out.lt _ _ hx; have:=Jy.out.size; omega)
   have eu:=Lib.hid (show w4.heap.size ≤ g7 from by have:=Jy.out.size; omega)
   clear hbx hb8 hHeld aX
   refine hK.out _ _ YO (fun hHeld => ?_)
   clear hK K YO
   refine nm 14 ?_
   refine on 6 (some 46) nX fun K hK => ?_
   refine BR Try.func34 (by kernel_rfl) rfl #[.pointer (some ⟨a.ge k,0,none⟩),.int .u32 AL,.agg #[.int .i64 p.kind,.int .u32 p.mine,.int .u32 p.AL,.int .u32 p.yours,.int .u32 p.seq,.int .u32 p.AX,.int .u32 p.stamp,.int .u32 p.echo,.complex .f64 p.zr p.zi,.slice Ab nb cb]] (by rfl) rfl rfl (by (try simp only [List.map_toArray,List.map_cons,List.map_nil]); first | done | rfl) ?_
   have hz:Calls Try.prog 34 #[.pointer (some ⟨a.ge k,0,none⟩),.int .u32 AL,.agg #[.int .i64 p.kind,.int .u32 p.mine,.int .u32 p.AL,.int .u32 p.yours,.int .u32 p.seq,.int .u32 p.AX,.int .u32 p.stamp,.int .u32 p.echo,.complex .f64 p.zr p.zi,.slice Ab nb cb]] w8 _:=VK.out w8 (Jy.out.trans (WV.out.mono Jy.out.size))
   refine hz.mono ?_
   clear hz
   intro e w7 Qp
   rw [aW.out] at Qp
   have hK7:=(EW.turns Qp).2.1
   obtain ⟨A7,c7,eX,o',okb,hT0⟩:=T0.of U4.out HX.out (Jy.out.trans (WV.out.mono Jy.out.size)) Qp
   subst eX
   have HT0:=Lib.hid hT0
   refine ⟨_,rfl,?_⟩
   have hS7:w7.heap[a.gx k]? = some (.cells (IB (a.ge k) (X.pn k)) 172 (0,0)) ∧ w7.heap[w3.heap.size]? = some (.cells #[.int .i64 p.kind,.int .u32 p.mine,.int .u32 p.AL,.int .u32 p.yours,.int .u32 p.seq,.int .u32 p.AX,.int .u32 p.stamp,.int .u32 p.echo,.complex .f64 p.zr p.zi,.slice Ab nb cb] 27 (0,0)):=⟨Ah hHeld.1 hK7 (fun hx => U4.out.apart _ _ hx (.inr (.inr ⟨k,HX.out,rfl⟩))),Ah hHeld.2 hK7 (fun hx => by have:=H.out.lt _ _ hx; have:=HB3.out.size; omega)⟩
   have aY:=Lib.hid ((hK7.2 g7 (AU eY.out) jo.out).trans eY.out)
   clear Qp hT0 hK7 hHeld
   refine hK.out _ _ hS7 (fun hHeld => ?_)
   clear hK K hS7
   refine nm 46 ?_
   refine pu 7 39 nZ ?_
   refine pu 8 47 ni ?_
   refine pu 9 48 bW ?_
   have h9:=hcont (g7,A7,c7) _ ⟨⟨_,_,HT0.out.ahead (TE:=#[.bool false,.bool false,.bool false,.slice none 0 0]) eu.out (AU eY.out) jo.out aY.out⟩,hHeld.2⟩
   simp only [Ak,Act.put,sA,sZ,sS] at h9
   exact h9
 intro s9 w9 hF
 obtain ⟨g7,A7,c7⟩:=s9
 obtain ⟨⟨o',okb,hD⟩,jq⟩:=hF
 have HD:=Lib.hid hD
 have BZ:=Lib.hid jq
 clear hD jq
 refine Dn (a':=?_) ?_ ?_
 rotate_left
 ·show Ak _ _ = _
  simp only [Ak,Act.put,sA,sZ,sS]
  rfl
 refine la 11 none oC fun K hK => ?_
 refine Rf.row_step (by rfl) rfl 56 (.tmp 14) (.tmp 47) rfl g7 #[.bool hdb,.bool XV,.bool XW,.slice A7 body.length c7] rfl rfl 56 _ HD.out.t7 (by kernel_rfl) rfl (by kernel_rfl) (fun w10 YP VQ => ?_)
 have YQ:=Lib.hid YP
 have YR:=Lib.hid VQ
 clear YP VQ
 refine hK.out _ _ ?_
 clear hK K
 refine pu 12 13 oG ?_
 refine BU (by kernel_rfl) ?_
 have HZ0:=Lib.hid (TV.zs H.out MF.out HD.out YR.out YQ.out BZ.out ⟨HB3.out.size,AU HB4.out⟩)
 clear VK U4 YM jm HZ3 HB4 Rz HR3 HD BZ YQ YR hc3 hlk
 have Z:=HZ0
 clear HZ0
 have HQ:=Lib.hid (show FB X k AL p = VP (IG (FN (X.CV k L') k hdb) k XW) k XV from by unfold FB; rw [aW.out])
 clear HB3 MF
 generalize w3.heap.size = gk at *
 have t0:w10.cell? ⟨g7,0,none⟩ = some (Value.bool _):=(Z.out.cell 0).trans rfl
 have t1:w10.cell? ⟨g7,1,none⟩ = some (Value.bool _):=(Z.out.cell 1).trans rfl
 have t2:w10.cell? ⟨g7,2,none⟩ = some (Value.bool _):=(Z.out.cell 2).trans rfl
 have t3:w10.cell? ⟨g7,3,none⟩ = some (Value.slice A7 body.length c7):=(Z.out.cell 3).trans rfl
 have UG:w10.cell? ⟨gk,0,none⟩ = some (Value.int .i64 p.kind):=(Z.out.KL 0).trans rfl
 cases hdb <;> cases XW <;> cases XV
 all_goals (
  go_wp2_with (first | ((with_reducible refine gate_ (.store 3 (.tmp 56) (.const (.int .i64 0))) rfl ?_); (refine Z.out.store HX.out rfl rfl 3 (.tmp 56) (.const (.int .i64 0)) rfl 1 (.int .i64 0) rfl rfl rfl (by decide) (by kernel_rfl) rfl { Ps.pn _ k with quiet:=0 } rfl rfl ?_); (intro FO hz); (have Z2:=Lib.hid hz); (clear hz Z t0 t1 t2 t3 UG); (have Z:=Z2); (clear Z2); (have t0:FO.cell? ⟨g7,0,none⟩ = some (Value.bool _):=(Z.out.cell 0).trans rfl); (have t1:FO.cell? ⟨g7,1,none⟩ = some (Value.bool _):=(Z.out.cell 1).trans rfl); (have t2:FO.cell? ⟨g7,2,none⟩ = some (Value.bool _):=(Z.out.cell 2).trans rfl); (have t3:FO.cell? ⟨g7,3,none⟩ = some (Value.slice A7 body.length c7):=(Z.out.cell 3).trans rfl); (have UG:FO.cell? ⟨gk,0,none⟩ = some (Value.int .i64 p.kind):=(Z.out.KL 0).trans rfl)) | (go_at_call 120; (have hc:=Z.out.tell k false (by have:=HL.out; simp [Fa,Ps.set,Ps.CV]; omega)); (with_reducible refine hc.mono ?_); clear hc; rintro e w12 ⟨rfl,hz⟩; (have Z2:=Lib.hid hz); (clear hz Z t0 t1 t2 t3 UG); (have Z:=Z2); (clear Z2); (have t0:w12.cell? ⟨g7,0,none⟩ = some (Value.bool _):=(Z.out.cell 0).trans rfl); (have t1:w12.cell? ⟨g7,1,none⟩ = some (Value.bool _):=(Z.out.cell 1).trans rfl); (have t2:w12.cell? ⟨g7,2,none⟩ = some (Value.bool _):=(Z.out.cell 2).trans rfl); (have t3:w12.cell? ⟨g7,3,none⟩ = some (Value.slice A7 body.length c7):=(Z.out.cell 3).trans rfl); (have UG:w12.cell? ⟨gk,0,none⟩ = some (Value.int .i64 p.kind):=(Z.out.KL 0).trans rfl)) | (go_at_call 120; (have hc:=Z.out.tell k true (by have:=HL.out; simp [Fa,Ps.set,Ps.CV]; omega)); (with_reducible refine hc.mono ?_); clear hc; rintro e Ii ⟨rfl,hz⟩; (have Z2:=Lib.hid hz); (clear hz Z t0 t1 t2 t3 UG); (have Z:=Z2); (clear Z2); (have t0:Ii.cell? ⟨g7,0,none⟩ = some (Value.bool _):=(Z.out.cell 0).trans rfl); (have t1:Ii.cell? ⟨g7,1,none⟩ = some (Value.bool _):=(Z.out.cell 1).trans rfl); (have t2:Ii.cell? ⟨g7,2,none⟩ = some (Value.bool _):=(Z.out.cell 2).trans rfl); (have t3:Ii.cell? ⟨g7,3,none⟩ = some (Value.slice A7 body.length c7):=(Z.out.cell 3).trans rfl); (have UG:Ii.cell? ⟨gk,0,none⟩ = some (Value.int .i64 p.kind):=(Z.out.KL 0).trans rfl)) | ((with_reducible refine gate_ (.store 3 (.tmp 70) (.const (.int .i64 0))) rfl ?_); (refine Z.out.store HX.out rfl rfl 3 (.tmp 70) (.const (.int .i64 0)) rfl 1 (.int .i64 0) rfl rfl rfl (by decide) (by kernel_rfl) rfl { Ps.pn _ k with quiet:=0 } rfl rfl ?_); (intro Tz hz); (have Z2:=Lib.hid hz); (clear hz Z t0 t1 t2 t3 UG); (have Z:=Z2); (clear Z2); (have t0:Tz.cell? ⟨g7,0,none⟩ = some (Value.bool _):=(Z.out.cell 0).trans rfl); (have t1:Tz.cell? ⟨g7,1,none⟩ = some (Value.bool _):=(Z.out.cell 1).trans rfl); (have t2:Tz.cell? ⟨g7,2,none⟩ = some (Value.bool _):=(Z.out.cell 2).trans rfl); (have t3:Tz.cell? ⟨g7,3,none⟩ = some (Value.slice A7 body.length c7):=(Z.out.cell 3).trans rfl); (have UG:Tz.cell? ⟨gk,0,none⟩ = some (Value.int .i64 p.kind):=(Z.out.KL 0).trans rfl)) | ((with_reducible refine gate_ (.store 24 (.tmp 72) (.const (.int .u32 0))) rfl ?_); (refine Z.out.store HX.out rfl rfl 24 (.tmp 72) (.const (.int .u32 0)) rfl 2 (.int .u32 0) rfl rfl rfl (by decide) (by kernel_rfl) rfl { Ps.pn _ k with echo:=0 } rfl rfl ?_); (intro Qn hz); (have Z2:=Lib.hid hz); (clear hz Z t0 t1 t2 t3 UG); (have Z:=Z2); (clear Z2); (have t0:Qn.cell? ⟨g7,0,none⟩ = some (Value.bool _):=(Z.out.cell 0).trans rfl); (have t1:Qn.cell? ⟨g7,1,none⟩ = some (Value.bool _):=(Z.out.cell 1).trans rfl); (have t2:Qn.cell? ⟨g7,2,none⟩ = some (Value.bool _):=(Z.out.cell 2).trans rfl); (have t3:Qn.cell? ⟨g7,3,none⟩ = some (Value.slice A7 body.length c7):=(Z.out.cell 3).trans rfl); (have UG:Qn.cell? ⟨gk,0,none⟩ = some (Value.int .i64 p.kind):=(Z.out.KL 0).trans rfl)))
  go_ret2
  obtain ⟨YS,VR⟩:=Z.out.row
  rw [aW.out,HQ.out]
  first | exact ⟨A7,c7,rfl,⟨YS,VR⟩,Z.out.mv⟩ | exact ⟨A7,c7,YS,rfl,VR,Z.out.mv⟩)
end Go.Proofs.Ytnkkgofpifhoeaa.Pe
end
section
namespace Go.Proofs.Ytnkkgofpifhoeaa.Pe
open Go.Proofs.Ytnkkgofpifhoeaa.Lk
def XX (p:BL):Prop:=Pk.BV p.body ∧ p.zr = 0 ∧ p.zi = 0 ∧ p.stamp = 0 ∧ p.echo = 0 ∧ p.kind ≠ 4
structure Ex (L:Lk):Prop where
 out:∀ p ∈ L.out,XX p
 queue:∀ r ∈ L.queue,Pk.BV r
theorem Jg:Pk.BV []:=fun c hc => by cases hc
theorem Iy.of {p:BL} (h:p.Good) (hx:XX p):Iy p:=⟨h,hx.1,fun _ => ⟨hx.2.1,hx.2.2.1⟩,by rw [hx.2.2.2.1]; decide,by rw [hx.2.2.2.2.1]; decide⟩
theorem GN (L:Lk):XX (Cf L):=⟨Jg,rfl,rfl,rfl,rfl,(show (1:Int) ≠ 4 from by decide)⟩
theorem WY (L:Lk):XX (LK L):=⟨Jg,rfl,rfl,rfl,rfl,(show (3:Int) ≠ 4 from by decide)⟩
theorem U5 {L:Lk} (h:Ex L) (i:Int):XX (H6 L i):=by
 refine ⟨?_,rfl,rfl,rfl,rfl,(show (2:Int) ≠ 4 from by decide)⟩
 show Pk.BV (L.queue.getD i.toNat [])
 rw [List.getD_eq_getElem?_getD]
 by_cases hi:i.toNat < L.queue.length
 ·rw [List.getElem?_eq_getElem hi]
  exact h.queue _ (List.getElem_mem _)
 ·rw [List.getElem?_eq_none (by omega)]
  exact Jg
theorem Ex.of {L M:Lk} (h:Ex L) (ho:M.out = L.out) (hq:M.queue = L.queue):Ex M:=⟨ho ▸ h.out,hq ▸ h.queue⟩
theorem Fv {L:Lk} (h:Ex L) {p:BL} (hp:XX p):Ex (emit_ L p):=by
 unfold emit_
 split
 ·refine ⟨fun q hq => ?_,h.queue⟩
  rcases List.mem_append.1 hq with hq | hq
  ·exact h.out q hq
  ·rw [List.mem_singleton.1 hq]; exact hp
 ·exact h
theorem WZ (o:Int):Ex (newL o):=⟨fun p hp => (by cases hp),fun r hr => (by cases hr)⟩
theorem OU {L M:Lk} (h:Ex L) (ho:M.out = L.out) (hq:M.queue = []):Ex M:=⟨ho ▸ h.out,hq ▸ fun r hr => (by cases hr)⟩
theorem PR {L:Lk} (h:Ex L):Ex (EE L):=by
 unfold EE
 split
 ·refine Fv ?_ (GN _)
  exact OU h rfl rfl
 ·exact h
theorem PS {L:Lk} (h:Ex L):Ex (ET L):=OU h rfl rfl
theorem We {L:Lk} (h:Ex L):Ex { L with out:=[] }:=⟨fun p hp => (by cases hp),h.queue⟩
theorem OV {L:Lk} (h:Ex L):Ex (Dl L):=by
 unfold Dl
 refine Fv ?_ (U5 h _)
 exact h.of rfl rfl
theorem MW (n:Nat) {L:Lk} (h:Ex L):Ex (EJ n L):=by
 induction n generalizing L with
 | zero => exact h
 | succ n ih =>
  unfold EJ
  split
  ·exact ih (OV h)
  ·exact h
theorem U6 {L:Lk} (h:Ex L) {b:List Int} (hb:Pk.BV b):Ex (D6 L b):=by
 unfold D6
 split
 ·refine MW _ ⟨h.out,fun r hr => ?_⟩
  rcases List.mem_append.1 hr with hr | hr
  ·exact h.queue r hr
  ·rw [List.mem_singleton.1 hr]; exact hb
 ·exact h
theorem Wh {L:Lk} (h:Ex L) (p:BL):Ex (KA L p):=by
 unfold KA
 split
 ·exact h.of rfl rfl
 ·exact h
theorem TM {L:Lk} (h:Ex L) (p:BL):Ex (QM L p):=by
 have hm:=Wh h p
 unfold QM
 split
 ·exact MW _ ⟨hm.out,fun r hr => hm.queue r (List.mem_of_mem_drop hr)⟩
 ·exact hm
theorem U7 {L:Lk} (h:Ex L) (b:Int) (p:BL):Ex (BO L b p).1:=by
 unfold BO
 split
 ·exact h
 split
 ·split
  ·split
   ·show Ex (emit_ _ _)
    refine Fv ?_ (GN _)
    exact h.of rfl rfl
   ·show Ex (emit_ _ _)
    refine Fv ?_ (GN _)
    exact h.of rfl rfl
  ·split
   ·show Ex (if p.seq = 0 then emit_ L (Cf L) else L)
    split
    ·exact Fv h (GN _)
    ·exact h
   ·split
    ·exact PS h
    ·show Ex (emit_ _ _)
     refine Fv ?_ (GN _)
     exact OU h rfl rfl
 ·split
  ·show Ex (UD L p)
   unfold UD
   split
   ·exact Fv (TM h p) (WY _)
   ·exact TM h p
  ·exact h
def GX (X:Ps):Prop:=∀ k,X.has k → (X.pn k).e.Fine ∧ Ex (X.pn k).e
theorem GX.wire {X:Ps} (h:GX X):∀ k,X.has k → ∀ p ∈ (X.pn k).e.out,Iy p ∧ p.kind ≠ 4:=fun k hk p hp => ⟨Iy.of ((h k hk).1.good p hp) ((h k hk).2.out p hp),((h k hk).2.out p hp).2.2.2.2.2⟩
theorem GX.len {X:Ps} (h:GX X):∀ k,X.has k → (X.pn k).e.out.length ≤ 1024:=fun k hk => (h k hk).1.ok.out
theorem PT (X:Ps) (k:Nat) (b:Int) (p:BL) (j:Nat):((FB X k b p).pn j).e = if j = k then (BO (X.pn k).e b p).1 else (X.pn j).e:=by
 have h1:∀ (Y:Ps) (x:Pn) (j:Nat),x.e = (Y.pn k).e → ((Y.set k x).pn j).e = (Y.pn j).e:=fun Y x j hx => by
  by_cases hj:j = k
  ·subst hj; rw [Ps.Eb]; exact hx
  ·rw [Ps.Ec Y hj]
 unfold FB
 have e1:∀ (Y:Ps) (c:Bool),((VP Y k c).pn j).e = (Y.pn j).e:=fun Y c => by
  unfold VP
  split
  ·refine (h1 _ _ j ?_).trans ((h1 _ _ j ?_).trans ?_)
   ·rfl
   ·rfl
   ·rfl
  ·rfl
 have e2:∀ (Y:Ps) (c:Bool),((IG Y k c).pn j).e = (Y.pn j).e:=fun Y c => by
  unfold IG
  split <;> rfl
 have e3:∀ (Y:Ps) (c:Bool),((FN Y k c).pn j).e = (Y.pn j).e:=fun Y c => by
  unfold FN
  split
  ·exact h1 _ _ j rfl
  ·rfl
 rw [e1,e2,e3]
 unfold Ps.CV
 by_cases hj:j = k
 ·subst hj; rw [Ps.Eb,if_pos rfl]
 ·rw [Ps.Ec X hj,if_neg hj]
theorem Jh (X:Ps) (k:Nat) (b:Int) (p:BL):(FB X k b p).me = X.me ∧ (FB X k b p).nodes = X.nodes ∧ (FB X k b p).evs.length ≤ X.evs.length + 2:=by
 have e1:∀ (Y:Ps) (c:Bool),(VP Y k c).me = Y.me ∧ (VP Y k c).nodes = Y.nodes ∧ (VP Y k c).evs.length ≤ Y.evs.length + 1:=fun Y c => by
  unfold VP
  split
  ·exact ⟨rfl,rfl,by simp [Fa,Ps.set]⟩
  ·exact ⟨rfl,rfl,by omega⟩
 have e2:∀ (Y:Ps) (c:Bool),(IG Y k c).me = Y.me ∧ (IG Y k c).nodes = Y.nodes ∧ (IG Y k c).evs.length ≤ Y.evs.length + 1:=fun Y c => by
  unfold IG
  split
  ·exact ⟨rfl,rfl,by simp [Fa]⟩
  ·exact ⟨rfl,rfl,by omega⟩
 have e3:∀ (Y:Ps) (c:Bool),(FN Y k c).me = Y.me ∧ (FN Y k c).nodes = Y.nodes ∧ (FN Y k c).evs = Y.evs:=fun Y c => by
  unfold FN
  split <;> exact ⟨rfl,rfl,rfl⟩
 unfold FB
 have a1:=e1 (IG (FN (X.CV k (BO (X.pn k).e b p).1) k (BO (X.pn k).e b p).2.heard) k (BO (X.pn k).e b p).2.down) (BO (X.pn k).e b p).2.up
 have a2:=e2 (FN (X.CV k (BO (X.pn k).e b p).1) k (BO (X.pn k).e b p).2.heard) (BO (X.pn k).e b p).2.down
 have a3:=e3 (X.CV k (BO (X.pn k).e b p).1) (BO (X.pn k).e b p).2.heard
 have a4:(X.CV k (BO (X.pn k).e b p).1).evs = X.evs:=rfl
 refine ⟨a1.1.trans (a2.1.trans a3.1),a1.2.1.trans (a2.2.1.trans a3.2.1),?_⟩
 rw [a3.2.2,a4] at a2
 have:=a1.2.2
 have:=a2.2.2
 omega
theorem GX.take {X:Ps} (h:GX X) (k:Nat) {b:Int} (hb:0 < b ∧ b < 4294967296) {p:BL} (hp:p.Good):GX (FB X k b p):=fun j hj => by
 have hs:=Jh X k b p
 have hx:X.has j:=by unfold Ps.has at hj ⊢; rwa [hs.1,hs.2.1] at hj
 rw [PT]
 split
 ·rename_i he
  subst he
  exact ⟨Qb (h _ hx).1 hb hp,U7 (h _ hx).2 b p⟩
 ·exact h j hx
end Go.Proofs.Ytnkkgofpifhoeaa.Pe
end
