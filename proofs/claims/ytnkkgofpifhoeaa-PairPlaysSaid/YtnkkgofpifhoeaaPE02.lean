/- What the laws of a pair are proved with: links and pairs in memory, what their methods do, what a pair keeps to (part 2). -/
import Derived.Test.YtnkkgofpifhoeaaPE01
import Derived.Deep.AppendLies
import Derived.Maps.AppendAt
import Derived.OwnWalk
import Derived.Laws.BytesArg
import Derived.Laws.MakeOwn
import Derived.Laws.OwnMore
import Derived.Deep.OwnRows
import Derived.Tactics
import Derived.Lib.ConvBytes
import Derived.Laws.Slices
import Derived.KernelRfl
import Derived.RowKit3
import Derived.Deep.LoopGhost
import Derived.Deep.QuietTactic
import Derived.BigQuiet
import Derived.WideLaws
import Derived.Deep.DeepCutAuto
import Derived.Deep.CutBlock
import Derived.Lib.AppendStr
import Derived.ArgAppend
import Derived.Laws.IdiomCopy
import Derived.Laws.Tables
import Derived.Laws.ResultCell
set_option linter.unusedSimpArgs false
set_option linter.unusedVariables false
set_option maxRecDepth 100000
set_option maxHeartbeats 16000000
section
namespace Go.Proofs.YtnkkgofpifhoeaaW.PrintWords
open Go.RowKit
def nums (k:IntKind) (xs:List Int):List Value:=xs.map fun x => .int k x
theorem Iw {w W:World} (h:Below w.heap.size w W) (o:Obj):Below w.heap.size w (W.alloc o):=h.alloc h.size o
theorem Au {B:Nat} {w W:World} (h:Below B w W) (n:Nat):Below B w (W.drewN n):=⟨h.os,h.tape,h.output,h.size,h.block⟩
theorem Bl {w w1:World} (h:Below w.heap.size w w1) {a:Addr} {v:Value} (hc:w.cell? a = some v):w1.cell? a = some v:=(h.cell (World.block_lt_of_cell? w a hc)).trans hc
theorem add_plain (g j:Nat):(⟨g,0,none⟩:Addr).add j = ⟨g,j,none⟩:=by unfold Addr.add; split <;> simp_all
def Qm (w:World) (k:IntKind) (A:Option Addr) (n:Nat) (xs:List Int):Prop :=
 xs.length = n ∧ n ≤ 9223372036854775807 ∧ (0 < n → ∃ ad,A = some ad ∧ ∀ j,j < n → w.cell? (ad.add j) = some (.int k (xs.getD j 0)))
theorem aS (W:World) (base:Nat) (e:TypeId) (size:Nat):W.ownsRow base e size (.slice none 0 0) 0 []:=⟨by simp,.inl ⟨rfl,rfl⟩⟩
theorem own_base {w:World} {base:Nat} {e:TypeId} {size n:Nat} {v:Value} {xs:List Value} (h:w.ownsRow base e size v n xs) (k:Nat) (hk:v.ownBlock = some k):base ≤ k:=by
 rcases h.2 with ⟨rfl,_⟩ | ⟨g,cap,cur,rfl,hb,_⟩
 ·simp [Value.ownBlock] at hk
 ·have:g = k:=by simpa [Value.ownBlock] using hk
  omega
theorem Xd {w:World} {base:Nat} {e:TypeId} {size n:Nat} {v:Value} {xs:List Value} (h:w.ownsRow base e size v n xs) (k:Nat) (hk:v.ownBlock = some k):k < w.heap.size:=by
 rcases h.2 with ⟨rfl,_⟩ | ⟨g,cap,cur,rfl,hb,hh,_⟩
 ·simp [Value.ownBlock] at hk
 ·have:g = k:=by simpa [Value.ownBlock] using hk
  subst this
  exact (Array.getElem?_eq_some_iff.1 hh).1
section
variable {P:Program} {ops:Array Oper} {rest:List Oper} {o:Oper} {a:Act} {Q:Exit → Act → World → Prop}
theorem Z37 {p:Prop} (h:p:=by
 obtain ⟨v1,w1,hr,hown,hg,hat⟩:=hrun
 refine wpList_plain hgd fun K hK => ?_
 unfold Oper.wp execOp
 simp only [ho,resolve,invoke,builtin,Sem.run_bind,Sem.run_pure,Result.andThen_ok,List.map_toArray,List.map_cons,List.map_nil,hs,hx,hr]
 refine hK _ _ (h v1 w1 hown (HB.grown hg hbase (own_base HO)) hg ?_)
 rcases hat with hat | hat
 ·exact .inl hat
 ·exact .inr ⟨_,hat,Nat.le_refl _⟩):p:=h
theorem V5 {w0 W:World} (base:Nat) (hgd:o.guard = none) (s x:Operand) (t e:TypeId) (k:IntKind) (bytes:Nat)
  (ho:o.op = .call { callee:=.builtin .append,args:=#[s,x],argTypes:=#[t,t] })
  (ht:P.underlying t = some (.slice e)) (hinfo:(P.info? e).map (fun i => (i.zero,i.size,i.bytes)) = some (some (.int k 0),1,bytes)) (hb0:0 < bytes)
  (v:Value) (xs ys:List Int) (A:Option Addr) (m c:Nat) (hs:a.eval s = v) (hx:a.eval x = .slice A m c)
  (HO:W.ownsRow base e 1 v xs.length (nums k xs)) (HR:Qm W k A m ys) (HB:Below base w0 W) (hbase:base ≤ W.heap.size) (hl:(xs.length + m) * bytes ≤ 140737488355328)
  (h:∀ v1 w1,w1.ownsRow base e 1 v1 (xs ++ ys).length (nums k (xs ++ ys)) → Below base w0 w1 → W.grownBy w1 v.ownBlock → (v1.ownBlock = v.ownBlock ∨ ∃ b,v1.ownBlock = some b ∧ W.heap.size ≤ b) → wpList P ops Q rest (a.put o.dst v1) w1) :
  wpList P ops Q (o :: rest) a W:=by
 obtain ⟨i0,hi,hzz⟩:=Option.map_eq_some_iff.1 hinfo
 simp only [Prod.mk.injEq] at hzz
 obtain ⟨hz0,hz1,hz2⟩:=hzz
 have hm:ys.length = m:=HR.1
 have hlen:xs.length + m ≤ 140737488355328:=Nat.le_trans (Nat.le_mul_of_pos_right _ hb0) hl
 have hrun:∃ v1 w1,(Builtin.append_ #[t,t] o.type #[v,.slice A m c]).run P W = .ok v1 w1 ∧ w1.ownsRow base e 1 v1 (xs ++ ys).length (nums k (xs ++ ys)) ∧ W.grownBy w1 v.ownBlock ∧ (v1.ownBlock = v.ownBlock ∨ v1.ownBlock = some W.heap.size):=by
  rcases A with _ | ad
  ·have h0:m = 0:=by
    rcases Nat.eq_zero_or_pos m with h0 | h0
    ·exact h0
    ·obtain ⟨ad,h,_⟩:=HR.2.2 h0
     cases h
   subst h0
   obtain rfl:ys = []:=List.eq_nil_of_length_eq_zero hm
   refine ⟨v,W,?_,by simpa using HO,World.grownBy.refl W _,.inl rfl⟩
   rcases HO.2 with ⟨rfl,hn⟩ | ⟨g,cap,cur,rfl,_,_,hnc,_⟩
   ·simp [Builtin.append_,run_underlying ht,sizeOf,typeInfo,hi,Builtin.lenOf,Builtin.firstCells]
   ·simp [Builtin.append_,run_underlying ht,sizeOf,typeInfo,hi,Builtin.lenOf,Builtin.firstCells,hnc,storeCells]
  ·have hcells:∀ j u,(nums k ys)[j]? = some u → W.cell? (ad.add j) = some u:=by
    intro j u hu
    have hj:j < ys.length:=by
     rcases Nat.lt_or_ge j ys.length with h | h
     ·exact h
     ·simp [nums,List.getElem?_eq_none h] at hu
    obtain ⟨ad',h',hc⟩:=HR.2.2 (by omega)
    injection h' with h'
    subst h'
    have:=hc j (by omega)
    simp [nums,List.getElem?_eq_getElem hj] at hu
    subst hu
    rw [this]
    simp [List.getD_eq_getElem?_getD,List.getElem?_eq_getElem hj]
   obtain ⟨v1,w1,hr,h2,h3,_,h5⟩:=run_append_own_at (P:=P) W base t o.type e i0 (.int k 0) 1 bytes ht hi hz0 hz1 hz2 rfl (by omega) v xs.length (nums k xs) HO ad m c (nums k ys) (by simp [nums,hm]) hcells
    (by intro u hu; simp only [nums,List.mem_map] at hu; obtain ⟨q,_,rfl⟩:=hu; rfl) (by simp only [maxLen]; omega) hl hbase
   exact ⟨v1,w1,hr,by simpa [nums,hm] using h2,h3,h5⟩
 exact Z37
end
def CV {α:Type} (R:α → List Value → Prop) (size:Nat) (ps:List α) (cs:List Value):Prop :=
 cs.length = ps.length * size ∧ ∀ j p,ps[j]? = some p → R p ((cs.drop (j * size)).take size)
theorem CV.none {α:Type} (R:α → List Value → Prop) (size:Nat):CV R size [] []:=⟨by simp,fun j p h => by simp at h⟩
theorem CV.snoc {α:Type} {R:α → List Value → Prop} {size:Nat} {ps:List α} {cs c:List Value} {p:α} (h:CV R size ps cs) (hp:R p c) (hc:c.length = size):CV R size (ps ++ [p]) (cs ++ c):=by
 refine ⟨by rw [List.length_append,h.1,hc,List.length_append,List.length_singleton,Nat.add_mul,Nat.one_mul],fun j q hq => ?_⟩
 rcases Nat.lt_or_ge j ps.length with hj | hj
 ·rw [List.getElem?_append_left hj] at hq
  have h1:j * size + size ≤ cs.length:=by rw [h.1,← Nat.succ_mul]; exact Nat.mul_le_mul_right _ hj
  have h2:=h.2 j q hq
  rw [List.drop_append_of_le_length (by omega),List.take_append_of_le_length (by rw [List.length_drop]; omega)]
  exact h2
 ·have hj':j = ps.length:=by
   have:=(List.getElem?_eq_some_iff.1 hq).1
   rw [List.length_append,List.length_singleton] at this
   omega
  subst hj'
  have hq':p = q:=by simpa using hq
  subst hq'
  rw [← h.1,List.drop_left,← hc,List.take_length]
  exact hp
theorem CV.Ep {α:Type} {R R':α → List Value → Prop} {size:Nat} {ps:List α} {cs:List Value} (h:CV R size ps cs) (hR:∀ p c,R p c → R' p c):CV R' size ps cs:=⟨h.1,fun j p hj => hR _ _ (h.2 j p hj)⟩
def Dh {α:Type} (R:α → List Value → Prop) (size:Nat) (w:World) (A:Option Addr) (n:Nat) (ps:List α):Prop :=
 ps.length = n ∧ n ≤ 9223372036854775807 ∧ (0 < n → ∃ ad,A = some ad ∧ ∀ j p,ps[j]? = some p → ∃ c,c.length = size ∧ R p c ∧ ∀ i u,c[i]? = some u → w.cell? (ad.add (j * size + i)) = some u)
theorem Dh.Ep {α:Type} {R R':α → List Value → Prop} {size:Nat} {w w1:World} {A:Option Addr} {n:Nat} {ps:List α} (h:Dh R size w A n ps) (hb:Below w.heap.size w w1) (hR:∀ p c,R p c → R' p c):Dh R' size w1 A n ps :=
 ⟨h.1,h.2.1,fun hn => by
  obtain ⟨ad,e,hc⟩:=h.2.2 hn
  refine ⟨ad,e,fun j p hj => ?_⟩
  obtain ⟨c,hs,hr,hcell⟩:=hc j p hj
  exact ⟨c,hs,hR _ _ hr,fun i u hu => Bl hb (hcell i u hu)⟩⟩
theorem Jm {α:Type} {R:α → List Value → Prop} {w:World} {base n size:Nat} {e:TypeId} {v:Value} {ps:List α} {cs:List Value} (h:w.ownsRow base e size v n cs) (hR:CV R size ps cs) (hn:ps.length = n) :
  ∃ A c,v = .slice A n c ∧ Dh R size w A n ps:=by
 rcases Nat.eq_zero_or_pos n with h0 | h0
 ·rcases h.2 with ⟨rfl,rfl⟩ | ⟨g,cap,cur,rfl,_⟩
  ·exact ⟨none,0,rfl,hn,by omega,fun hp => absurd hp (by omega)⟩
  ·exact ⟨_,cap,rfl,hn,by omega,fun hp => absurd hp (by omega)⟩
 ·obtain ⟨g,cap,rfl,_,_⟩:=h.form h0
  have hm:n ≤ 9223372036854775807:=by
   rcases h.2 with ⟨_,h1⟩ | ⟨g',cap',cur,he,_,_,h1,h2,_⟩
   ·omega
   ·simp only [maxLen] at h2
    omega
  refine ⟨_,cap,rfl,hn,hm,fun _ => ⟨_,rfl,fun j p hj => ⟨(cs.drop (j * size)).take size,?_,hR.2 j p hj,fun i u hu => ?_⟩⟩⟩
  ·have hjl:=(List.getElem?_eq_some_iff.1 hj).1
   have h1:j * size + size ≤ cs.length:=by rw [hR.1,← Nat.succ_mul]; exact Nat.mul_le_mul_right _ hjl
   rw [List.length_take,List.length_drop]
   omega
  ·refine h.cells (g:=g) rfl _ u ?_
   rw [List.getElem?_take] at hu
   split at hu
   ·rw [List.getElem?_drop] at hu
    exact hu
   ·cases hu
section
variable {P:Program} {ops:Array Oper} {rest:List Oper} {o:Oper} {a:Act} {Q:Exit → Act → World → Prop}
theorem Z48 {p:Prop} (h:p:=by
 refine h v1 w1 hown ((HB.alloc hbase _).grown hg (by simp; omega) (own_base HO)) (World.grownBy.trans (World.grownBy_alloc W _ _) hg) ?_
 rcases hat with hat | hat
 ·exact .inl hat
 ·exact .inr ⟨_,hat,by simp⟩):p:=h
theorem TE {w0 W:World} (base:Nat) (hgd:o.guard = none) (s x:Operand) (t e:TypeId) (z:Value) (size bytes:Nat)
  (ho:o.op = .call { callee:=.builtin .append,args:=#[s,x],argTypes:=#[t,t] })
  (ht:P.underlying t = some (.slice e)) (hinfo:(P.info? e).map (fun i => (i.zero,i.size,i.bytes)) = some (some z,size,bytes)) (hz:z.cells.size = size) (hs0:0 < size) (hb0:0 < bytes)
  (v:Value) (n:Nat) (xs ys:List Value) (hs:a.eval s = v) (hx:a.eval x = .slice (some ⟨W.heap.size,0,none⟩) 1 1) (hys:ys.length = size) (h1:∀ u ∈ ys,u.oneCell' = true)
  (HO:W.ownsRow base e size v n xs) (HB:Below base w0 W) (hbase:base ≤ W.heap.size) (hl:(n + 1) * bytes ≤ 140737488355328)
  (h:∀ v1 w1,w1.ownsRow base e size v1 (n + 1) (xs ++ ys) → Below base w0 w1 → W.grownBy w1 v.ownBlock → (v1.ownBlock = v.ownBlock ∨ ∃ b,v1.ownBlock = some b ∧ W.heap.size ≤ b) → wpList P ops Q rest (a.put o.dst v1) w1) :
  wpList P ops Q (o :: rest) a (W.alloc (.cells ys.toArray e)):=by
 obtain ⟨i0,hi,hzz⟩:=Option.map_eq_some_iff.1 hinfo
 simp only [Prod.mk.injEq] at hzz
 obtain ⟨hz0,hz1,hz2⟩:=hzz
 have hlen:n + 1 ≤ 140737488355328:=Nat.le_trans (Nat.le_mul_of_pos_right _ hb0) hl
 refine wpList_append_own_at (W.alloc (.cells ys.toArray e)) hgd s x t ho base e i0 z size bytes ht hi hz0 hz1 hz2 hz hs0 v n xs hs (HO.alloc _) ⟨W.heap.size,0,none⟩ 1 1 ys hx (by rw [hys]; simp)
  (by simpa using World.news_of_block (cs:=ys.toArray) (t:=e) (fr:=(0,0)) (heap_alloc_new W (.cells ys.toArray e))) h1 (by simp only [maxLen]; omega) hl (by simp; omega) ?_
 intro v1 w1 hown hg _ hat
 exact Z48
end
theorem VC {w:World} {g:Nat} {t:TypeId} {cs:Array Value} (h:w.heap[g]? = some (.cells cs t (0,0))) (i:Nat) (u:Value):(w.setCell ⟨g,i,none⟩ u).heap[g]? = some (.cells (cs.setIfInBounds i u) t (0,0)):=by
 simp [World.setCell,Array.getElem?_modify,h]
theorem AQ {w:World} {g:Nat} {o:Obj} (h:w.heap[g]? = some o):g < w.heap.size:=(Array.getElem?_eq_some_iff.1 h).1
theorem AA {w:World} {g:Nat} {t:TypeId} {cs:Array Value} (h:w.heap[g]? = some (.cells cs t (0,0))) (i:Nat):w.cell? ⟨g,i,none⟩ = cs[i]?:=cell_of_row w g i cs t (0,0) h
theorem AL {w:World} {g:Nat} {t:TypeId} {cs:Array Value} (h:w.heap[g]? = some (.cells cs t (0,0))) (i:Nat):w.frozen? ⟨g,i,none⟩ = false:=by simp [World.frozen?,h]
def ML (w w':World) (g:Nat) (row:Option Nat):Prop:=w.heap.size ≤ w'.heap.size ∧ ∀ i,i < w.heap.size → i ≠ g → some i ≠ row → w'.heap[i]? = w.heap[i]?
theorem ML.trans {w w1 w2:World} {g:Nat} {row iK:Option Nat} (h:ML w w1 g row) (k:ML w1 w2 g iK) (hr:iK = row ∨ ∃ b,iK = some b ∧ w.heap.size ≤ b):ML w w2 g row :=
 ⟨Nat.le_trans h.1 k.1,fun i hi hg hn => by
  refine (k.2 i (Nat.lt_of_lt_of_le hi h.1) hg ?_).trans (h.2 i hi hg hn)
  rcases hr with rfl | ⟨b,rfl,hb⟩
  ·exact hn
  ·intro e
   injection e with e
   omega⟩
section
variable {P:Program} {ops:Array Oper} {o:Oper} {a:Act} {Q:Exit → Act → World → Prop} {K:Act → World → Prop}
theorem KG {w0 W:World} (base:Nat) (hw:Region.wanted o (yielded ops a.tmps) = true) (s x:Operand) (t e:TypeId) (z:Value) (size bytes:Nat)
  (ho:o.op = .call { callee:=.builtin .append,args:=#[s,x],argTypes:=#[t,t] })
  (ht:P.underlying t = some (.slice e)) (hinfo:(P.info? e).map (fun i => (i.zero,i.size,i.bytes)) = some (some z,size,bytes)) (hz:z.cells.size = size) (hs0:0 < size) (hb0:0 < bytes)
  (v:Value) (n:Nat) (xs ys:List Value) (hs:a.eval s = v) (hx:a.eval x = .slice (some ⟨W.heap.size,0,none⟩) 1 1) (hys:ys.length = size) (h1:∀ u ∈ ys,u.oneCell' = true)
  (HO:W.ownsRow base e size v n xs) (HB:Below base w0 W) (hbase:base ≤ W.heap.size) (hl:(n + 1) * bytes ≤ 140737488355328)
  (h:∀ v1 w1,w1.ownsRow base e size v1 (n + 1) (xs ++ ys) → Below base w0 w1 → W.grownBy w1 v.ownBlock → (v1.ownBlock = v.ownBlock ∨ ∃ b,v1.ownBlock = some b ∧ W.heap.size ≤ b) → K (a.put o.dst v1) w1) :
  if Region.wanted o (yielded ops a.tmps) = true then Oper.wp P o a (W.alloc (.cells ys.toArray e)) K Q else K (a.put o.dst undef) (W.alloc (.cells ys.toArray e)):=by
 obtain ⟨i0,hi,hzz⟩:=Option.map_eq_some_iff.1 hinfo
 simp only [Prod.mk.injEq] at hzz
 obtain ⟨hz0,hz1,hz2⟩:=hzz
 have hlen:n + 1 ≤ 140737488355328:=Nat.le_trans (Nat.le_mul_of_pos_right _ hb0) hl
 rw [if_pos hw]
 obtain ⟨v1,w1,hr,hown,hg,_,hat⟩:=run_append_own_at (P:=P) (W.alloc (.cells ys.toArray e)) base t o.type e i0 z size bytes ht hi hz0 hz1 hz2 hz hs0 v n xs (HO.alloc _) ⟨W.heap.size,0,none⟩ 1 1 ys (by rw [hys]; simp)
  (by simpa using World.news_of_block (cs:=ys.toArray) (t:=e) (fr:=(0,0)) (heap_alloc_new W (.cells ys.toArray e))) h1 (by simp only [maxLen]; omega) hl (by simp; omega)
 unfold Oper.wp execOp
 simp only [ho,resolve,invoke,builtin,Sem.run_bind,Sem.run_pure,Result.andThen_ok,List.map_toArray,List.map_cons,List.map_nil,hs,hx,hr]
 exact Z48
end
theorem TF {w:World} {base base':Nat} {e:TypeId} {size n:Nat} {v:Value} {xs:List Value} (h:w.ownsRow base e size v n xs) (hb:base' ≤ base):w.ownsRow base' e size v n xs:=by
 obtain ⟨h1,h2⟩:=h
 refine ⟨h1,?_⟩
 rcases h2 with h2 | ⟨g,cap,cur,rfl,hg,r⟩
 ·exact .inl h2
 ·exact .inr ⟨g,cap,cur,rfl,Nat.le_trans hb hg,r⟩
section
variable {α:Type} {enc:α → Value} {d:α}
def encs (enc:α → Value) (xs:List α):List Value:=xs.map enc
def iL (d:α) (xs:List α) (i:Int):α:=xs.getD i.toNat d
theorem Lp (xs:List α):(encs enc xs).length = xs.length:=by simp [encs]
theorem Qn (xs:List α) (j:Nat) (h:j < xs.length):(encs enc xs)[j]? = some (enc (xs.getD j d)):=by
 simp [encs,List.getElem?_eq_getElem h,List.getD_eq_getElem?_getD]
def PT (enc:α → Value) (d:α) (w:World) (A:Option Addr) (n:Nat) (xs:List α):Prop :=
 xs.length = n ∧ n ≤ 9223372036854775807 ∧ (0 < n → ∃ ad,A = some ad ∧ ∀ j,j < n → w.cell? (ad.add j) = some (enc (xs.getD j d)))
theorem V6 {W:World} {base g n cap:Nat} {e:TypeId} {xs:List α} (h:W.ownsRow base e 1 (.slice (some ⟨g,0,none⟩) n cap) n (encs enc xs)) (i:Int) (h0:0 ≤ i) (h1:i < n) :
  W.cell? ⟨g,i.toNat,none⟩ = some (enc (iL d xs i)) ∧ W.frozen? ⟨g,i.toNat,none⟩ = false:=by
 have hl:xs.length = n:=by have:=h.1; simp [encs] at this; exact this
 constructor
 ·have hc:=h.cells (g:=g) rfl i.toNat _ (Qn (d:=d) xs i.toNat (by omega))
  rwa [add_plain] at hc
 ·rcases h.2 with ⟨h',_⟩ | ⟨g',cap',cur,h',_,hh,_⟩
  ·cases h'
  ·have:g = g':=by injection h' with h'; injection h' with h'; injection h' with h'
   subst this
   simp [World.frozen?,hh]
end
section
variable {α:Type} {P:Program} {ops:Array Oper} {rest:List Oper} {o:Oper} {a:Act} {Q:Exit → Act → World → Prop}
theorem Ja {w0 W:World} (enc:α → Value) (d:α) (base:Nat) (hgd:o.guard = none) (s x:Operand) (t e:TypeId) (z:Value) (bytes:Nat)
  (ho:o.op = .call { callee:=.builtin .append,args:=#[s,x],argTypes:=#[t,t] })
  (ht:P.underlying t = some (.slice e)) (hinfo:(P.info? e).map (fun i => (i.zero,i.size,i.bytes)) = some (some z,1,bytes)) (hz:z.cells.size = 1) (hb0:0 < bytes) (h1:∀ x:α,(enc x).oneCell' = true)
  (v:Value) (xs ys:List α) (A:Option Addr) (m c:Nat) (hs:a.eval s = v) (hx:a.eval x = .slice A m c)
  (HO:W.ownsRow base e 1 v xs.length (encs enc xs)) (HR:PT enc d W A m ys) (HB:Below base w0 W) (hbase:base ≤ W.heap.size) (hl:(xs.length + m) * bytes ≤ 140737488355328)
  (h:∀ v1 w1,w1.ownsRow base e 1 v1 (xs ++ ys).length (encs enc (xs ++ ys)) → Below base w0 w1 → W.grownBy w1 v.ownBlock → (v1.ownBlock = v.ownBlock ∨ ∃ b,v1.ownBlock = some b ∧ W.heap.size ≤ b) → wpList P ops Q rest (a.put o.dst v1) w1) :
  wpList P ops Q (o :: rest) a W:=by
 obtain ⟨i0,hi,hzz⟩:=Option.map_eq_some_iff.1 hinfo
 simp only [Prod.mk.injEq] at hzz
 obtain ⟨hz0,hz1,hz2⟩:=hzz
 have hm:ys.length = m:=HR.1
 have hlen:xs.length + m ≤ 140737488355328:=Nat.le_trans (Nat.le_mul_of_pos_right _ hb0) hl
 have hrun:∃ v1 w1,(Builtin.append_ #[t,t] o.type #[v,.slice A m c]).run P W = .ok v1 w1 ∧ w1.ownsRow base e 1 v1 (xs ++ ys).length (encs enc (xs ++ ys)) ∧ W.grownBy w1 v.ownBlock ∧ (v1.ownBlock = v.ownBlock ∨ v1.ownBlock = some W.heap.size):=by
  rcases A with _ | ad
  ·have h0:m = 0:=by
    rcases Nat.eq_zero_or_pos m with h0 | h0
    ·exact h0
    ·obtain ⟨ad,h,_⟩:=HR.2.2 h0
     cases h
   subst h0
   obtain rfl:ys = []:=List.eq_nil_of_length_eq_zero hm
   refine ⟨v,W,?_,by simpa using HO,World.grownBy.refl W _,.inl rfl⟩
   rcases HO.2 with ⟨rfl,hn⟩ | ⟨g,cap,cur,rfl,_,_,hnc,_⟩
   ·simp [Builtin.append_,run_underlying ht,sizeOf,typeInfo,hi,Builtin.lenOf,Builtin.firstCells]
   ·simp [Builtin.append_,run_underlying ht,sizeOf,typeInfo,hi,Builtin.lenOf,Builtin.firstCells,hnc,storeCells]
  ·have hcells:∀ j u,(encs enc ys)[j]? = some u → W.cell? (ad.add j) = some u:=by
    intro j u hu
    have hj:j < ys.length:=by
     rcases Nat.lt_or_ge j ys.length with h | h
     ·exact h
     ·simp [encs,List.getElem?_eq_none h] at hu
    obtain ⟨ad',h',hc⟩:=HR.2.2 (by omega)
    injection h' with h'
    subst h'
    rw [Qn (d:=d) ys j hj] at hu
    rw [← hu]
    exact hc j (by omega)
   obtain ⟨v1,w1,hr,h2,h3,_,h5⟩:=run_append_own_at (P:=P) W base t o.type e i0 z 1 bytes ht hi hz0 hz1 hz2 hz (by omega) v xs.length (encs enc xs) HO ad m c (encs enc ys) (by simp [encs,hm]) hcells
    (by intro u hu; simp only [encs,List.mem_map] at hu; obtain ⟨q,_,rfl⟩:=hu; exact h1 q) (by simp only [maxLen]; omega) hl hbase
   exact ⟨v1,w1,hr,by simpa [encs,hm] using h2,h3,h5⟩
 exact Z37
end
theorem PU (w:World) (o:Obj):(w.alloc o).heap[w.heap.size]? = some o:=heap_alloc_new w o
theorem iM {w:World} {base n m c size:Nat} {e:TypeId} {A:Option Addr} {xs:List Value} (h:w.ownsRow base e size (.slice A m c) n xs):m ≤ c:=by
 rcases h.2 with ⟨he,_⟩ | ⟨g,cap,cur,he,_,_,hnc,_⟩
 ·injection he with _ h2 h3
  omega
 ·injection he with _ h2 h3
  omega
def He {α:Type} (R:α → List Value → Prop) (e:TypeId) (size:Nat) (w:World) (base:Nat) (v:Value) (ps:List α):Prop :=
 ∃ inner,w.ownsRow base e size v ps.length inner ∧ CV R size ps inner
section
variable {α:Type} {R R':α → List Value → Prop} {e:TypeId} {size:Nat} {w w1:World} {base:Nat} {v:Value} {ps:List α}
theorem He.none_ (R:α → List Value → Prop) (e:TypeId) (size:Nat) (w:World) (base:Nat):He R e size w base (.slice none 0 0) []:=⟨[],aS _ _ _ _,CV.none _ _⟩
theorem He.Ep (h:He R e size w base v ps) (hR:∀ p c,R p c → R' p c):He R' e size w base v ps:=by
 obtain ⟨inner,ho,hr⟩:=h
 exact ⟨inner,ho,hr.Ep hR⟩
theorem He.reads (h:He R e size w base v ps):∃ A c,v = .slice A ps.length c ∧ ps.length ≤ c ∧ Dh R size w A ps.length ps:=by
 obtain ⟨inner,ho,hr⟩:=h
 obtain ⟨A,c,rfl,hrow⟩:=Jm ho hr rfl
 exact ⟨A,c,rfl,iM ho,hrow⟩
end
theorem Dh.Xe {α:Type} {R:α → List Value → Prop} {size:Nat} {w:World} {ad:Addr} {n:Nat} {ps:List α} (h:Dh R size w (some ad) n ps) :
  ∃ inner,CV R size ps inner ∧ ∀ j u,inner[j]? = some u → w.cell? (ad.add j) = some u:=by
 have key:∀ m,m ≤ ps.length → ∃ inner,CV R size (ps.take m) inner ∧ ∀ j u,inner[j]? = some u → w.cell? (ad.add j) = some u:=by
  intro m
  induction m with
  | zero => exact fun _ => ⟨[],CV.none _ _,fun j u hu => by simp at hu⟩
  | succ m ih =>
   intro hm
   obtain ⟨inner,hr,hc⟩:=ih (by omega)
   obtain ⟨ad',he,hcell⟩:=h.2.2 (by have:=h.1; omega)
   injection he with he
   subst he
   obtain ⟨c,hcl,hp,hcc⟩:=hcell m _ (List.getElem?_eq_getElem (show m < ps.length by omega))
   refine ⟨inner ++ c,?_,fun j u hu => ?_⟩
   ·rw [List.take_succ_eq_append_getElem (show m < ps.length by omega)]
    exact hr.snoc hp hcl
   ·have hil:inner.length = m * size:=by rw [hr.1,List.length_take,Nat.min_eq_left (by omega)]
    rcases Nat.lt_or_ge j inner.length with hj | hj
    ·rw [List.getElem?_append_left hj] at hu
     exact hc j u hu
    ·rw [List.getElem?_append_right hj] at hu
     have:=hcc (j - inner.length) u hu
     rwa [hil,Nat.add_sub_cancel' (by omega)] at this
 obtain ⟨inner,hr,hc⟩:=key ps.length (Nat.le_refl _)
 rw [List.take_length] at hr
 exact ⟨inner,hr,hc⟩
structure Kd (α:Type) where
 sz:Nat
 E:List Nat
 K:World → α → List Value → Prop
 M:World → Nat → (Nat → Prop) → α → List Value → Prop
 Gw:∀ {w x cs},K w x cs → cs.length = sz
 Gx:∀ {w x cs},K w x cs → ∀ u ∈ cs,u.oneCell' = true
 Et:∀ {w w1:World} {x cs},Below w.heap.size w w1 → K w x cs → K w1 x cs
 Dw:∀ {w base ok x cs},M w base ok x cs → K w x cs
 BU:∀ {w base ok ok' x cs},(∀ k,ok k → ok' k) → M w base ok x cs → M w base ok' x cs
 CW:∀ {w:World} {base ok x cs},M w base ok x cs → M w base (fun k => ok k ∧ base ≤ k ∧ k < w.heap.size ∧ ∃ q,q ∈ E ∧ ∃ cells,w.heap[k]? = some (.cells cells q (0,0))) x cs
 EI:∀ {w w1:World} {base ok x cs},(∀ k,ok k → w1.heap[k]? = w.heap[k]?) → M w base ok x cs → M w1 base ok x cs
 Eu:∀ {w base base' ok x cs},base' ≤ base → M w base ok x cs → M w base' ok x cs
theorem Xf {w w1:World} {base:Nat} {e:TypeId} {size n:Nat} {v:Value} {xs:List Value} (h:w.ownsRow base e size v n xs) (hm:∀ k,v.ownBlock = some k → w1.heap[k]? = w.heap[k]?):w1.ownsRow base e size v n xs:=by
 obtain ⟨h1,h2⟩:=h
 refine ⟨h1,?_⟩
 rcases h2 with h2 | ⟨g,cap,cur,rfl,hg,hh,r⟩
 ·exact .inl h2
 ·exact .inr ⟨g,cap,cur,rfl,hg,(hm g (by simp [Value.ownBlock])).trans hh,r⟩
theorem FO {w:World} {base:Nat} {e:TypeId} {size n:Nat} {v:Value} {xs:List Value} (h:w.ownsRow base e size v n xs) (k:Nat) (hk:v.ownBlock = some k):∃ cells,w.heap[k]? = some (.cells cells e (0,0)):=by
 rcases h.2 with ⟨rfl,_⟩ | ⟨g,cap,cur,rfl,hg,hh,r⟩
 ·simp [Value.ownBlock] at hk
 ·have:g = k:=by simpa [Value.ownBlock] using hk
  subst this
  exact ⟨cur,hh⟩
namespace Kd
def C {α:Type} (d:Kd α) (w:World) (A:Option Addr) (n:Nat) (xs:List α):Prop:=Dh (d.K w) d.sz w A n xs
def R {α:Type} (d:Kd α) (e:Nat) (w:World) (base:Nat) (ok:Nat → Prop) (v:Value) (xs:List α):Prop :=
 (∀ k,v.ownBlock = some k → ok k) ∧ He (d.M w base (fun k => ok k ∧ some k ≠ v.ownBlock)) e d.sz w base v xs
section
variable {α:Type} {d:Kd α} {e:Nat} {w w1:World} {base:Nat} {ok ok':Nat → Prop} {v:Value} {xs:List α}
theorem Cm {A:Option Addr} {n:Nat} (h:d.C w A n xs) (hb:Below w.heap.size w w1):d.C w1 A n xs:=Dh.Ep h hb (fun _ _ hp => d.Et hb hp)
theorem D5 (d:Kd α) (e:Nat) (w:World) (base:Nat) (ok:Nat → Prop):d.R e w base ok (.slice none 0 0) []:=⟨fun k hk => by simp [Value.ownBlock] at hk,He.none_ _ _ _ _ _⟩
theorem BV (h:d.R e w base ok v xs) (hok:∀ k,ok k → ok' k):d.R e w base ok' v xs:=⟨fun k hk => hok k (h.1 k hk),h.2.Ep (fun _ _ hp => d.BU (fun k hk => ⟨hok k hk.1,hk.2⟩) hp)⟩
theorem Du (h:d.R e w base ok v xs):d.R e w base (fun k => ok k ∧ base ≤ k ∧ k < w.heap.size ∧ ∃ q,q ∈ e :: d.E ∧ ∃ cells,w.heap[k]? = some (.cells cells q (0,0))) v xs:=by
 obtain ⟨h0,inner,ho,hr⟩:=h
 refine ⟨fun k hk => ?_,inner,ho,hr.Ep (fun _ _ hp => d.BU (fun k hk => ?_) (d.CW hp))⟩
 ·obtain ⟨cells,hc⟩:=FO ho k hk
  exact ⟨h0 k hk,own_base ho k hk,Xd ho k hk,e,List.mem_cons_self,cells,hc⟩
 ·obtain ⟨⟨h1,h2⟩,h3,h4,q,hq,hc⟩:=hk
  exact ⟨⟨h1,h3,h4,q,List.mem_cons_of_mem _ hq,hc⟩,h2⟩
theorem Xg (h:d.R e w base ok v xs) (hm:∀ k,ok k → w1.heap[k]? = w.heap[k]?):d.R e w1 base ok v xs:=by
 obtain ⟨h0,inner,ho,hr⟩:=h
 exact ⟨h0,inner,Xf ho (fun k hk => hm k (h0 k hk)),hr.Ep (fun _ _ hp => d.EI (fun k hk => hm k hk.1) hp)⟩
theorem aT {base':Nat} (h:d.R e w base ok v xs) (hb:base' ≤ base):d.R e w base' ok v xs:=by
 obtain ⟨h0,inner,ho,hr⟩:=h
 exact ⟨h0,inner,TF ho hb,hr.Ep (fun _ _ hp => d.Eu hb hp)⟩
theorem NG (h:d.R e w base ok v xs) (hm:∀ k,ok k → k < w.heap.size → w1.heap[k]? = w.heap[k]?):d.R e w1 base ok v xs :=
 BV (Xg (Du h) (fun k hk => hm k hk.1 hk.2.2.1)) (fun _ hk => hk.1)
theorem Xh {x:α} {cs:List Value} (h:d.M w base ok x cs) (hm:∀ k,ok k → k < w.heap.size → w1.heap[k]? = w.heap[k]?):d.M w1 base ok x cs :=
 d.BU (fun _ hk => hk.1) (d.EI (fun k hk => hm k hk.1 hk.2.2.1) (d.CW h))
theorem Ee (h:d.R e w base ok v xs) (hb:Below w.heap.size w w1):d.R e w1 base ok v xs:=NG h (fun k _ hk => hb.block k hk)
theorem KH {x:α} {cs:List Value} (h:d.M w base ok x cs) (hb:Below w.heap.size w w1):d.M w1 base ok x cs:=Xh h (fun k _ hk => hb.block k hk)
theorem qI (h:d.R e w base ok v xs) {p:Addr} (hok:∀ k,ok k → k ≠ p.block) (u:Value):d.R e (w.setCell p u) base ok v xs:=NG h (fun k ho _ => Below.heap_setCell w p u k (hok k ho))
theorem IG (h:d.R e w base ok v xs):∃ A c,v = .slice A xs.length c ∧ xs.length ≤ c ∧ d.C w A xs.length xs:=by
 obtain ⟨A,c,he,hl,hr⟩:=He.reads h.2
 exact ⟨A,c,he,hl,hr.Ep (Below.refl _ _) (fun _ _ hp => d.Dw hp)⟩
theorem Am (h:d.R e w base ok v xs):∃ A c,v = .slice A xs.length c:=by
 obtain ⟨A,c,he,_⟩:=IG h
 exact ⟨A,c,he⟩
theorem Qo (h:d.R e w base ok v xs):∃ inner,w.ownsRow base e d.sz v xs.length inner:=by
 obtain ⟨_,inner,ho,_⟩:=h
 exact ⟨inner,ho⟩
end
def scalar {α:Type} (enc:α → Value) (h1:∀ x,(enc x).oneCell' = true):Kd α where
 sz:=1
 E:=[]
 K:=fun _ x cs => cs = [enc x]
 M:=fun _ _ _ x cs => cs = [enc x]
 Gw:=fun h => by rw [h]; rfl
 Gx:=fun h u hu => by
  rw [h] at hu
  rw [List.mem_singleton.1 hu]
  exact h1 _
 Et:=fun _ h => h
 Dw:=fun h => h
 BU:=fun _ h => h
 CW:=fun h => h
 EI:=fun _ h => h
 Eu:=fun _ h => h
def int (k:IntKind):Kd Int:=scalar (Value.int k) (fun _ => rfl)
def slice {α:Type} (e:Nat) (d:Kd α):Kd (List α) where
 sz:=1
 E:=e :: d.E
 K:=fun w xs cs => ∃ A c,cs = [.slice A xs.length c] ∧ xs.length ≤ c ∧ d.C w A xs.length xs
 M:=fun w base ok xs cs => ∃ v,cs = [v] ∧ d.R e w base ok v xs
 Gw:=by
  rintro w x cs ⟨A,c,rfl,_⟩
  rfl
 Gx:=by
  rintro w x cs ⟨A,c,rfl,_⟩ u hu
  rw [List.mem_singleton.1 hu]
  rfl
 Et:=by
  rintro w w1 x cs hb ⟨A,c,rfl,hl,hr⟩
  exact ⟨A,c,rfl,hl,Cm hr hb⟩
 Dw:=by
  rintro w base ok x cs ⟨v,rfl,h⟩
  obtain ⟨A,c,rfl,hl,hr⟩:=IG h
  exact ⟨A,c,rfl,hl,hr⟩
 BU:=by
  rintro w base ok ok' x cs hok ⟨v,rfl,h⟩
  exact ⟨v,rfl,BV h hok⟩
 CW:=by
  rintro w base ok x cs ⟨v,rfl,h⟩
  exact ⟨v,rfl,Du h⟩
 EI:=by
  rintro w w1 base ok x cs hm ⟨v,rfl,h⟩
  exact ⟨v,rfl,Xg h hm⟩
 Eu:=by
  rintro w base base' ok x cs hb ⟨v,rfl,h⟩
  exact ⟨v,rfl,aT h hb⟩
def pair {α β:Type} (a:Kd α) (b:Kd β):Kd (α × β) where
 sz:=a.sz + b.sz
 E:=a.E ++ b.E
 K:=fun w x cs => ∃ c0 c1,cs = c0 ++ c1 ∧ a.K w x.1 c0 ∧ b.K w x.2 c1
 M:=fun w base ok x cs => ∃ c0 c1,cs = c0 ++ c1 ∧ a.M w base ok x.1 c0 ∧ b.M w base ok x.2 c1
 Gw:=by
  rintro w x cs ⟨c0,c1,rfl,h0,h1⟩
  rw [List.length_append,a.Gw h0,b.Gw h1]
 Gx:=by
  rintro w x cs ⟨c0,c1,rfl,h0,h1⟩ u hu
  rcases List.mem_append.1 hu with hu | hu
  ·exact a.Gx h0 u hu
  ·exact b.Gx h1 u hu
 Et:=by
  rintro w w1 x cs hb ⟨c0,c1,rfl,h0,h1⟩
  exact ⟨c0,c1,rfl,a.Et hb h0,b.Et hb h1⟩
 Dw:=by
  rintro w base ok x cs ⟨c0,c1,rfl,h0,h1⟩
  exact ⟨c0,c1,rfl,a.Dw h0,b.Dw h1⟩
 BU:=by
  rintro w base ok ok' x cs hok ⟨c0,c1,rfl,h0,h1⟩
  exact ⟨c0,c1,rfl,a.BU hok h0,b.BU hok h1⟩
 CW:=by
  rintro w base ok x cs ⟨c0,c1,rfl,h0,h1⟩
  refine ⟨c0,c1,rfl,a.BU ?_ (a.CW h0),b.BU ?_ (b.CW h1)⟩
  ·rintro k ⟨h2,h3,h4,q,hq,hc⟩
   exact ⟨h2,h3,h4,q,List.mem_append_left _ hq,hc⟩
  ·rintro k ⟨h2,h3,h4,q,hq,hc⟩
   exact ⟨h2,h3,h4,q,List.mem_append_right _ hq,hc⟩
 EI:=by
  rintro w w1 base ok x cs hm ⟨c0,c1,rfl,h0,h1⟩
  exact ⟨c0,c1,rfl,a.EI hm h0,b.EI hm h1⟩
 Eu:=by
  rintro w base base' ok x cs hb ⟨c0,c1,rfl,h0,h1⟩
  exact ⟨c0,c1,rfl,a.Eu hb h0,b.Eu hb h1⟩
def wI {α β:Type} (d:Kd α) (f:β → α):Kd β where
 sz:=d.sz
 E:=d.E
 K:=fun w x cs => d.K w (f x) cs
 M:=fun w base ok x cs => d.M w base ok (f x) cs
 Gw:=d.Gw
 Gx:=d.Gx
 Et:=d.Et
 Dw:=d.Dw
 BU:=d.BU
 CW:=d.CW
 EI:=d.EI
 Eu:=d.Eu
theorem Z22 {p:Prop} (h:p:=by
 have hne:∀ k,some k ≠ v.ownBlock → k < W.heap.size → some k ≠ v1.ownBlock:=by
  intro k hk hlt
  rcases hat with hat | ⟨b,hb,hle⟩
  ·rw [hat]; exact hk
  ·rw [hb]
   intro he
   injection he with he
   omega
 have step:∀ {q:α} {c:List Value} {o:Nat → Prop},d.M W base o q c → (∀ k,o k → ok k ∧ some k ≠ v.ownBlock) → d.M w1 base (fun k => ok k ∧ some k ≠ v1.ownBlock) q c:=by
  intro q c o hq ho
  have h1:=d.EI (w1:=w1) (fun k hk => hg.block k hk.2.2.1 (ho k hk.1).2) (d.CW hq)
  exact d.BU (fun k hk => ⟨(ho k hk.1).1,hne k (ho k hk.1).2 hk.2.2.1⟩) h1
 refine ⟨fun k hk => ?_,inner ++ cs,by rw [List.length_append,List.length_singleton]; exact hown,?_⟩
 ·rcases hat with hat | ⟨b,hb,hle⟩
  ·exact h0 k (hat ▸ hk)
  ·rw [hb] at hk
   injection hk with hk
   exact hfresh k (by omega)
 ·exact (hr.Ep (fun _ _ hq => step hq (fun _ hk => hk))).snoc (step hp Eg) (d.Gw (d.Dw hp))):p:=h
theorem TG {α:Type} {d:Kd α} {e base:Nat} {ok CY:Nat → Prop} {W w1:World} {v v1:Value} {xs:List α} {p:α} {inner cs:List Value} (h0:∀ k,v.ownBlock = some k → ok k) (hr:CV (d.M W base (fun k => ok k ∧ some k ≠ v.ownBlock)) d.sz xs inner) (hp:d.M W base CY p cs) (Eg:∀ k,CY k → ok k ∧ some k ≠ v.ownBlock) (hfresh:∀ k,W.heap.size ≤ k → ok k)
  (hown:w1.ownsRow base e d.sz v1 (xs.length + 1) (inner ++ cs)) (hg:W.grownBy w1 v.ownBlock) (hat:v1.ownBlock = v.ownBlock ∨ ∃ b,v1.ownBlock = some b ∧ W.heap.size ≤ b):d.R e w1 base ok v1 (xs ++ [p]):=by
 exact Z22
section
variable {P:Program} {ops:Array Oper} {o:Oper} {a:Act} {Q:Exit → Act → World → Prop} {Kc:Act → World → Prop} {α:Type}
theorem EY (d:Kd α) {w0 W:World} (base:Nat) (hw:Region.wanted o (yielded ops a.tmps) = true) (s x:Operand) (t e:TypeId) (z:Value) (bytes:Nat)
  (ho:o.op = .call { callee:=.builtin .append,args:=#[s,x],argTypes:=#[t,t] })
  (ht:P.underlying t = some (.slice e)) (hinfo:(P.info? e).map (fun i => (i.zero,i.size,i.bytes)) = some (some z,d.sz,bytes)) (hz:z.cells.size = d.sz) (hs0:0 < d.sz) (hb0:0 < bytes)
  (v:Value) (xs:List α) (p:α) (cs:List Value) (ok CY:Nat → Prop) (hs:a.eval s = v) (hx:a.eval x = .slice (some ⟨W.heap.size,0,none⟩) 1 1) (hp:d.M W base CY p cs) (Eg:∀ k,CY k → ok k ∧ some k ≠ v.ownBlock) (hfresh:∀ k,W.heap.size ≤ k → ok k)
  (HO:d.R e W base ok v xs) (HB:Below base w0 W) (hbase:base ≤ W.heap.size) (hl:(xs.length + 1) * bytes ≤ 140737488355328)
  (h:∀ v1 w1,d.R e w1 base ok v1 (xs ++ [p]) → Below base w0 w1 → W.grownBy w1 v.ownBlock → (v1.ownBlock = v.ownBlock ∨ ∃ b,v1.ownBlock = some b ∧ W.heap.size ≤ b) → Kc (a.put o.dst v1) w1) :
  if Region.wanted o (yielded ops a.tmps) = true then Oper.wp P o a (W.alloc (.cells cs.toArray e)) Kc Q else Kc (a.put o.dst undef) (W.alloc (.cells cs.toArray e)):=by
 obtain ⟨h0,inner,hown,hr⟩:=HO
 refine KG base hw s x t e z d.sz bytes ho ht hinfo hz hs0 hb0 v xs.length inner cs hs hx (d.Gw (d.Dw hp)) (d.Gx (d.Dw hp)) hown HB hbase hl ?_
 intro v1 w1 hown1 hb1 hg1 Hr
 exact h v1 w1 (TG h0 hr hp Eg hfresh hown1 hg1 Hr) hb1 hg1 Hr
end
theorem Qp {α:Type} {enc:α → Value} (xs:List α):CV (fun (x:α) (cs:List Value) => cs = [enc x]) 1 xs (encs enc xs):=by
 refine ⟨by simp [encs],fun j p hj => ?_⟩
 obtain ⟨hl,hp⟩:=List.getElem?_eq_some_iff.1 hj
 have hl':j < (encs enc xs).length:=by rw [Lp]; exact hl
 rw [Nat.mul_one,List.drop_eq_getElem_cons hl']
 simp [encs,hp]
theorem Xi {α:Type} {enc:α → Value} {h1:∀ x,(enc x).oneCell' = true} {e:Nat} {w:World} {base:Nat} {ok:Nat → Prop} {v:Value} {xs:List α} (ho:w.ownsRow base e 1 v xs.length (encs enc xs)) (hok:∀ k,v.ownBlock = some k → ok k):(scalar enc h1).R e w base ok v xs:=⟨hok,encs enc xs,ho,Qp xs⟩
theorem Qq {α:Type} {enc:α → Value} {h1:∀ x,(enc x).oneCell' = true} {e:Nat} {w:World} {base:Nat} {ok:Nat → Prop} {v:Value} {xs:List α} (h:(scalar enc h1).R e w base ok v xs):w.ownsRow base e 1 v xs.length (encs enc xs):=by
 obtain ⟨_,inner,ho,hr⟩:=h
 have:inner = encs enc xs:=by
  apply List.ext_getElem?
  intro j
  rcases Nat.lt_or_ge j xs.length with hj | hj
  ·have h2:=hr.2 j _ (List.getElem?_eq_getElem hj)
   have hl:j < inner.length:=by have:=hr.1; simp [scalar] at this; omega
   have h3:(inner.drop (j * 1)).take 1 = [enc xs[j]]:=h2
   rw [Nat.mul_one,List.drop_eq_getElem_cons hl] at h3
   have h4:inner[j] = enc xs[j]:=by
    have h5:=congrArg List.head? h3
    rw [List.take_succ_cons] at h5
    exact Option.some.inj h5
   rw [List.getElem?_eq_getElem hl,h4]
   simp [encs,List.getElem?_eq_getElem hj]
  ·have h3:inner.length = xs.length:=by have:=hr.1; simp [scalar] at this; omega
   rw [List.getElem?_eq_none (by omega),List.getElem?_eq_none (by rw [Lp]; omega)]
 rw [← this]
 exact ho
theorem TI {α:Type} {enc:α → Value} {d:α} {h1:∀ x,(enc x).oneCell' = true} {w:World} {A:Option Addr} {n:Nat} {xs:List α} (h:PT enc d w A n xs):(scalar enc h1).C w A n xs:=by
 refine ⟨h.1,h.2.1,fun hn => ?_⟩
 obtain ⟨ad,e,hc⟩:=h.2.2 hn
 refine ⟨ad,e,fun j p hj => ⟨[enc p],rfl,rfl,fun i u hu => ?_⟩⟩
 obtain ⟨hl,hp⟩:=List.getElem?_eq_some_iff.1 hj
 have h2:=hc j (by have:=h.1; omega)
 rw [List.getD_eq_getElem?_getD,hj] at h2
 cases i with
 | zero =>
  have:enc p = u:=by simpa using hu
  subst this
  simpa [scalar] using h2
 | succ i => simp at hu
theorem NH {α:Type} {enc:α → Value} {d:α} {h1:∀ x,(enc x).oneCell' = true} {w:World} {A:Option Addr} {n:Nat} {xs:List α} (h:(scalar enc h1).C w A n xs):PT enc d w A n xs:=by
 refine ⟨h.1,h.2.1,fun hn => ?_⟩
 obtain ⟨ad,e,hc⟩:=h.2.2 hn
 refine ⟨ad,e,fun j hj => ?_⟩
 have hl:j < xs.length:=by have:=h.1; omega
 obtain ⟨c,_,hK,hcell⟩:=hc j _ (List.getElem?_eq_getElem hl)
 have hK':c = [enc xs[j]]:=hK
 subst hK'
 have:=hcell 0 _ rfl
 simpa [scalar,List.getD_eq_getElem?_getD,List.getElem?_eq_getElem hl] using this
end Kd
namespace Kd
section
variable {α β:Type} {d:Kd α} {d':Kd β} {e e':Nat} {w w1 W:World} {base b b':Nat} {ok ok' okv oku:Nat → Prop} {v u:Value} {xs:List α} {ys:List β}
theorem VD {A:Option Addr} {n:Nat} (h:d.C w A n xs) (m:Nat):d.C (w.drewN m) A n xs:=Cm h (Au (Below.refl _ _) m)
theorem Bi {A:Option Addr} {n c:Nat} (h:d.R e w base ok (.slice A n c) xs):n = xs.length ∧ n ≤ c ∧ d.C w A xs.length xs:=by
 obtain ⟨A',c',he,hl,hr⟩:=IG h
 injection he with h1 h2 h3
 subst h1
 exact ⟨h2,by omega,hr⟩
theorem qJ (h:d.R e w base ok v xs):∀ k,v.ownBlock = some k → k < w.heap.size:=by
 obtain ⟨inner,ho⟩:=Qo h
 exact Xd ho
theorem iO (h:d.R e w base ok v xs):∀ k,v.ownBlock = some k → base ≤ k:=by
 obtain ⟨inner,ho⟩:=Qo h
 exact own_base ho
theorem Jt (h:d.R e w base ok v xs) (hp:0 < xs.length):∃ g cap,v = .slice (some ⟨g,0,none⟩) xs.length cap ∧ base ≤ g ∧ g < w.heap.size ∧ ∃ cells,w.heap[g]? = some (.cells cells e (0,0)):=by
 obtain ⟨inner,ho⟩:=Qo h
 obtain ⟨g,cap,he,hb,hl⟩:=ho.form hp
 obtain ⟨cells,hc⟩:=FO ho g (by rw [he]; simp [Value.ownBlock])
 exact ⟨g,cap,he,hb,hl,cells,hc⟩
end
section
variable {w W:World} {A:Option Addr} {n:Nat}
variable {α:Type} {enc:α → Value} {h1:∀ x,(enc x).oneCell' = true} {e base g cap:Nat} {ok:Nat → Prop} {xs:List α}
theorem iP (d:α) (h:(scalar enc h1).R e W base ok (.slice (some ⟨g,0,none⟩) xs.length cap) xs) (i:Int) (h0:0 ≤ i) (hi:i < xs.length):W.cell? ⟨g,i.toNat,none⟩ = some (enc (iL d xs i)) ∧ W.frozen? ⟨g,i.toNat,none⟩ = false:=V6 (Qq h) i h0 hi
end
section
variable {P:Program} {ops:Array Oper} {rest:List Oper} {o:Oper} {a:Act} {Q:Exit → Act → World → Prop}
theorem Oj {W w1:World} {v:Value} (hgd:o.guard = none) (hrun:(execOp a.eval o).run P W = .ok (.value v) w1) (h:wpList P ops Q rest (a.put o.dst v) w1):wpList P ops Q (o :: rest) a W:=by
 refine wpList_plain hgd fun K hK => ?_
 unfold Oper.wp
 rw [hrun]
 exact hK _ _ h
variable {α:Type}
theorem Iy (d:Kd α) {w0 W:World} (base e:Nat) (hgd:o.guard = none) {N:Tmp} (_hd:o.dst = some N) {xs:List α} {inner:List Value} {ok CY:Nat → Prop}
  (hrun:(execOp a.eval o).run P W = .ok (.value (.slice (some ⟨W.heap.size,0,none⟩) xs.length xs.length)) (W.alloc (.cells inner.toArray e)))
  (hrep:CV (d.M W base CY) d.sz xs inner) (hok:∀ k,CY k → ok k) (hfresh:ok W.heap.size) (HB:Below base w0 W) (hbase:base ≤ W.heap.size) (hm:xs.length ≤ 9223372036854775807)
  (h:∀ v1 w1,d.R e w1 base ok v1 xs → Below base w0 w1 → W.grownBy w1 none → (∃ b,v1.ownBlock = some b ∧ W.heap.size ≤ b) → wpList P ops Q rest (a.put o.dst v1) w1):wpList P ops Q (o :: rest) a W:=by
 refine Oj hgd hrun (h _ _ ⟨fun k hk => ?_,inner,?_,?_⟩ (HB.alloc hbase _) (World.grownBy_alloc W _ none) ⟨W.heap.size,by simp [Value.ownBlock],Nat.le_refl _⟩)
 ·have:W.heap.size = k:=by simpa [Value.ownBlock] using hk
  subst this
  exact hfresh
 ·have h2:=World.ownsRow_lit (base:=base) (e:=e) (size:=d.sz) W inner.toArray xs.length hbase (by simpa [maxLen] using hm) (by simpa using hrep.1)
  simpa using h2
 ·refine hrep.Ep (fun p c hp => d.BU (fun k hk => ⟨hok k hk.1,fun he => ?_⟩) (KH (d.CW hp) (Iw (Below.refl _ _) _)))
  have h3:k = W.heap.size:=by simpa [Value.ownBlock] using he
  have:=hk.2.2.1
  omega
end
end Kd
def Ht (w:World) (base:Nat) (e:TypeId) (size:Nat) (v:Value) (n:Nat) (xs:List Value):Prop :=
 xs.length = n * size ∧
 ((n = 0 ∧ ∃ A,v = .slice A 0 0 ∧ ∀ a,A = some a → base ≤ a.block ∧ ∃ cur,w.heap[a.block]? = some (.cells cur e (0,0))) ∨
  ∃ g off cap cur,v = .slice (some ⟨g,off * size,none⟩) n cap ∧ base ≤ g ∧ w.heap[g]? = some (.cells cur e (0,0)) ∧ n ≤ cap ∧ off + cap ≤ maxLen ∧ cur.size = (off + cap) * size ∧ (cur.toList.drop (off * size)).take (n * size) = xs)
section
variable {w w1:World} {base n size:Nat} {e:TypeId} {v:Value} {xs:List Value}
theorem KI (h:w.ownsRow base e size v n xs):Ht w base e size v n xs:=by
 obtain ⟨h1,h2⟩:=h
 refine ⟨h1,?_⟩
 rcases h2 with ⟨rfl,h0⟩ | ⟨g,cap,cur,rfl,hb,hh,hnc,hcm,hcs,ht⟩
 ·exact .inl ⟨h0,none,rfl,fun a ha => by cases ha⟩
 ·exact .inr ⟨g,0,cap,cur,by rw [Nat.zero_mul],hb,hh,hnc,by rw [Nat.zero_add]; exact hcm,by rw [Nat.zero_add]; exact hcs,by rw [Nat.zero_mul,List.drop_zero]; exact ht⟩
theorem Xj (h:Ht w base e size v n xs) (hm:∀ k,v.ownBlock = some k → w1.heap[k]? = w.heap[k]?):Ht w1 base e size v n xs:=by
 obtain ⟨h1,h2⟩:=h
 refine ⟨h1,?_⟩
 rcases h2 with ⟨h0,A,rfl,hA⟩ | ⟨g,off,cap,cur,rfl,hg,hh,r⟩
 ·refine .inl ⟨h0,A,rfl,fun a ha => ?_⟩
  obtain ⟨hb,cur,hc⟩:=hA a ha
  subst ha
  exact ⟨hb,cur,(hm a.block (by simp [Value.ownBlock])).trans hc⟩
 ·exact .inr ⟨g,off,cap,cur,rfl,hg,(hm g (by simp [Value.ownBlock])).trans hh,r⟩
theorem KJ (h:Ht w base e size v n xs) (k:Nat) (hk:v.ownBlock = some k):base ≤ k ∧ ∃ cells,w.heap[k]? = some (.cells cells e (0,0)):=by
 rcases h.2 with ⟨_,A,rfl,hA⟩ | ⟨g,off,cap,cur,rfl,hg,hh,r⟩
 ·cases A with
  | none => simp [Value.ownBlock] at hk
  | some a =>
   have:a.block = k:=by simpa [Value.ownBlock] using hk
   subst this
   exact hA a rfl
 ·have:g = k:=by simpa [Value.ownBlock] using hk
  subst this
  exact ⟨hg,cur,hh⟩
theorem qK (h:Ht w base e size v n xs) (k:Nat) (hk:v.ownBlock = some k):k < w.heap.size:=by
 obtain ⟨_,cells,hc⟩:=KJ h k hk
 exact (Array.getElem?_eq_some_iff.1 hc).1
theorem VE {base':Nat} (h:Ht w base e size v n xs) (hb:base' ≤ base):Ht w base' e size v n xs:=by
 obtain ⟨h1,h2⟩:=h
 refine ⟨h1,?_⟩
 rcases h2 with ⟨h0,A,rfl,hA⟩ | ⟨g,off,cap,cur,rfl,hg,r⟩
 ·exact .inl ⟨h0,A,rfl,fun a ha => ⟨Nat.le_trans hb (hA a ha).1,(hA a ha).2⟩⟩
 ·exact .inr ⟨g,off,cap,cur,rfl,Nat.le_trans hb hg,r⟩
theorem VF (h:Ht w base e size v n xs):∃ A c,v = .slice A n c ∧ n ≤ c:=by
 rcases h.2 with ⟨h0,A,rfl,_⟩ | ⟨g,off,cap,cur,rfl,hg,hh,hnc,r⟩
 ·exact ⟨A,0,by rw [h0],by omega⟩
 ·exact ⟨_,cap,rfl,hnc⟩
theorem qL (h:Ht w base e size v n xs):n ≤ 9223372036854775807:=by
 rcases h.2 with ⟨h0,_⟩ | ⟨g,off,cap,cur,rfl,hg,hh,hnc,hm,r⟩
 ·omega
 ·simp only [maxLen] at hm
  omega
theorem PV (g o j:Nat):(⟨g,o,none⟩:Addr).add j = ⟨g,o + j,none⟩:=by unfold Addr.add; split <;> simp_all
theorem VG {A:Option Addr} {c:Nat} (h:Ht w base e size (.slice A n c) n xs) (hn:0 < n):∃ ad,A = some ad ∧ ∀ j u,xs[j]? = some u → w.cell? (ad.add j) = some u:=by
 rcases h.2 with ⟨h0,_⟩ | ⟨g,off,cap,cur,he,hg,hh,hnc,hm,hcs,ht⟩
 ·omega
 ·injection he with ha _ hc
  subst ha
  refine ⟨_,rfl,fun j u hu => ?_⟩
  rw [PV,cell_of_row w g _ cur e (0,0) hh]
  rw [← ht,List.getElem?_take] at hu
  split at hu
  ·rw [List.getElem?_drop] at hu
   rw [← Array.getElem?_toList]
   exact hu
  ·cases hu
theorem yJ {A:Option Addr} {c m:Nat} (h:Ht w base e size (.slice A n c) n xs) (hm:m ≤ n):Ht w base e size (.slice A m c) m (xs.take (m * size)):=by
 obtain ⟨h1,h2⟩:=h
 refine ⟨by rw [List.length_take,h1]; exact Nat.min_eq_left (Nat.mul_le_mul_right _ hm),?_⟩
 rcases h2 with ⟨h0,A',he,hA⟩ | ⟨g,off,cap,cur,he,hb,hh,hnc,hcm,hcs,ht⟩
 ·injection he with ha hb hc
  subst ha; subst hc
  exact .inl ⟨by omega,A,by rw [show m = 0 by omega],hA⟩
 ·injection he with ha _ hc
  subst ha; subst hc
  refine .inr ⟨g,off,c,cur,rfl,hb,hh,by omega,hcm,hcs,?_⟩
  rw [← ht,List.take_take,Nat.min_eq_left (Nat.mul_le_mul_right _ hm)]
theorem iQ {A:Option Addr} {c k:Nat} (h:Ht w base e size (.slice A n c) n xs) (hk:k ≤ n):Ht w base e size (.slice (if c = k then A else A.map (·.add (k * size))) (n - k) (c - k)) (n - k) (xs.drop (k * size)):=by
 obtain ⟨h1,h2⟩:=h
 refine ⟨by rw [List.length_drop,h1,Nat.sub_mul],?_⟩
 rcases h2 with ⟨h0,A',he,hA⟩ | ⟨g,off,cap,cur,he,hb,hh,hnc,hcm,hcs,ht⟩
 ·injection he with ha hb hc
  subst ha; subst hc
  have hk0:k = 0:=by omega
  subst hk0
  exact .inl ⟨by omega,A,by rw [if_pos rfl,h0],hA⟩
 ·injection he with ha _ hc
  subst ha; subst hc
  by_cases hck:c = k
  ·rw [if_pos hck]
   refine .inl ⟨by omega,some ⟨g,off * size,none⟩,?_,fun a ha => ?_⟩
   ·rw [show n - k = 0 by omega,show c - k = 0 by omega]
   ·injection ha with ha
    subst ha
    exact ⟨hb,cur,hh⟩
  ·rw [if_neg hck]
   refine .inr ⟨g,off + k,c - k,cur,?_,hb,hh,by omega,by omega,by rw [hcs]; congr 1; omega,?_⟩
   ·rw [Option.map_some,PV,Nat.add_mul]
   ·rw [← ht,List.drop_take,List.drop_drop,Nat.add_mul,Nat.sub_mul]
theorem GL {g:Nat}:∀ (vs:List Value) (o:Nat) {w:World} (k:Nat),k ≠ g → (w.setCells g o vs).heap[k]? = w.heap[k]?
 | [],_,_,_,_ => rfl
 | v :: r,o,w,k,hk => by
  rw [World.setCells,GL r (o + 1) k hk]
  exact Below.heap_setCell w ⟨g,o,none⟩ v k hk
theorem Hf (g:Nat):∀ (vs:List Value) (o:Nat) (w:World),(w.setCells g o vs).os = w.os ∧ (w.setCells g o vs).tape = w.tape ∧ (w.setCells g o vs).output = w.output ∧ (w.setCells g o vs).heap.size = w.heap.size
 | [],_,_ => ⟨rfl,rfl,rfl,rfl⟩
 | v :: r,o,w => by
  obtain ⟨h1,h2,h3,h4⟩:=Hf g r (o + 1) (w.setCell ⟨g,o,none⟩ v)
  rw [World.setCells]
  exact ⟨h1,h2,h3,by rw [h4]; simp [World.setCell]⟩
theorem II {g:Nat} {e:TypeId}:∀ (vs:List Value) (o:Nat) (w:World) (cur:Array Value),w.heap[g]? = some (.cells cur e (0,0)) → o + vs.length ≤ cur.size →
  ∃ cur',(w.setCells g o vs).heap[g]? = some (.cells cur' e (0,0)) ∧ cur'.size = cur.size ∧ cur'.toList = cur.toList.take o ++ vs ++ cur.toList.drop (o + vs.length)
 | [],o,w,cur,h,_ => ⟨cur,h,rfl,by simp⟩
 | v :: r,o,w,cur,h,hl => by
  have h2:=VC h o v
  simp only [List.length_cons] at hl
  obtain ⟨cur',h3,h4,h5⟩:=II r (o + 1) (w.setCell ⟨g,o,none⟩ v) _ h2 (by simp; omega)
  refine ⟨cur',h3,by rw [h4]; simp,?_⟩
  rw [h5,Array.toList_setIfInBounds]
  have ho:o < cur.toList.length:=by rw [Array.length_toList]; omega
  rw [List.take_set,List.drop_set_of_lt (by omega)]
  simp only [List.length_cons]
  rw [show o + 1 + r.length = o + (r.length + 1) by omega]
  congr 1
  rw [List.take_succ_eq_append_getElem ho,List.set_append_right _ _ (by rw [List.length_take]; omega)]
  have ho':o < cur.size:=by omega
  simp [Nat.min_eq_left (Nat.le_of_lt ho')]
end
section
variable {P:Program}
theorem Xk (w:World) (base:Nat) (t ty e:TypeId) (i:TypeInfo) (z:Value) (size bytes:Nat) (ht:P.underlying t = some (.slice e)) (hi:P.info? e = some i) (hz:i.zero = some z)
  (hsize:i.size = size) (hby:i.bytes = bytes) (hzs:z.cells.size = size) (hsz:0 < size)
  (v:Value) (n:Nat) (xs:List Value) (hown:Ht w base e size v n xs)
  (a:Addr) (m c:Nat) (news:List Value) (hl:news.length = m * size) (hnews:∀ j u,news[j]? = some u → w.cell? (a.add j) = some u) (h1:∀ u ∈ news,u.oneCell' = true) (hm:0 < m)
  (h63:n + m ≤ maxLen) (hbytes:(n + m) * bytes ≤ 140737488355328) (hbase:base ≤ w.heap.size) :
  ∃ v' w',(Builtin.append_ #[t,t] ty #[v,.slice (some a) m c]).run P w = .ok v' w' ∧ Ht w' base e size v' (n + m) (xs ++ news) ∧ w.grownBy w' v.ownBlock ∧ (v'.ownBlock = v.ownBlock ∨ ∃ b,v'.ownBlock = some b ∧ w.heap.size ≤ b):=by
 have grows:∀ (b:Addr) (cap:Nat),cap < n + m → (∀ j u,xs[j]? = some u → w.cell? (b.add j) = some u) → v = .slice (some b) n cap →
   ∃ v' w',(Builtin.append_ #[t,t] ty #[v,.slice (some a) m c]).run P w = .ok v' w' ∧ Ht w' base e size v' (n + m) (xs ++ news) ∧ w.grownBy w' v.ownBlock ∧ (v'.ownBlock = v.ownBlock ∨ ∃ b,v'.ownBlock = some b ∧ w.heap.size ≤ b):=by
  intro b cap hcap hcells hv
  obtain ⟨v',w',hr,ho,hg⟩:=run_append_arg_grows (P:=P) (w:=w) t ty e i z size bytes ht hi hz hsize hby hzs hsz b n cap xs hown.1 hcells a m c news hl hnews hcap h63 hbytes
  refine ⟨v',w',by rw [hv]; exact hr,VE (KI ho) hbase,⟨hg.os,hg.tape,hg.output,hg.size,fun k hk _ => hg.block k hk (by simp)⟩,?_⟩
  obtain ⟨g',cap',he,hb,_⟩:=ho.form (by omega)
  exact .inr ⟨g',by rw [he]; simp [Value.ownBlock],hb⟩
 rcases hown.2 with ⟨h0,A,hv,hA⟩ | ⟨g,off,cap,cur,hv,hbg,hg,hnc,hcm,hcs,htake⟩
 ·cases A with
  | none =>
   subst h0
   have ho:w.ownsRow base e size v 0 xs:=⟨hown.1,.inl ⟨hv,rfl⟩⟩
   obtain ⟨v',w',hr,ho',hg,_,hat⟩:=run_append_own_at (P:=P) w base t ty e i z size bytes ht hi hz hsize hby hzs hsz v 0 xs ho a m c news hl hnews h1 h63 hbytes hbase
   refine ⟨v',w',hr,KI ho',hg,?_⟩
   rcases hat with hat | hat
   ·exact .inl hat
   ·exact .inr ⟨_,hat,Nat.le_refl _⟩
  | some b =>
   have hx:xs = []:=List.eq_nil_of_length_eq_zero (by rw [hown.1,h0,Nat.zero_mul])
   exact grows b 0 (by omega) (fun j u hu => by rw [hx] at hu; simp at hu) (by rw [hv,h0])
 ·by_cases hroom:n + m ≤ cap
  ·have hfit:off * size + n * size + news.length ≤ cur.size:=by
    rw [hl,hcs,← Nat.add_mul,← Nat.add_mul]
    exact Nat.mul_le_mul_right _ (by omega)
   subst hsize
   have hr:=run_append_room_cells (P:=P) (w:=w) t ty e i ht hi g (off * i.size) n cap a m c news hl hnews h1 hroom
    (fun j hj => by rw [cell_of_row w g _ cur e (0,0) hg]; simp; omega) (fun j _ => AL hg _)
   obtain ⟨cur',h3,h4,h5⟩:=II news (off * i.size + n * i.size) w cur hg hfit
   obtain ⟨s1,s2,s3,s4⟩:=Hf g news (off * i.size + n * i.size) w
   refine ⟨_,_,by rw [hv]; exact hr,⟨by rw [List.length_append,hown.1,hl,Nat.add_mul],.inr ⟨g,off,cap,cur',rfl,hbg,h3,hroom,hcm,by rw [h4,hcs],?_⟩⟩,
    ⟨s1,s2,s3,by rw [s4]; exact Nat.le_refl _,fun k _ hk => GL news _ k (fun he => hk (by rw [hv,he]; simp [Value.ownBlock]))⟩,.inl (by rw [hv]; rfl)⟩
   rw [h5,List.append_assoc,List.drop_append_of_le_length (by rw [List.length_take,Array.length_toList]; omega),List.drop_take]
   rw [show off * i.size + n * i.size - off * i.size = n * i.size by omega,htake]
   rw [← List.append_assoc]
   exact List.take_left' (by rw [List.length_append,hown.1,hl,Nat.add_mul])
  ·refine grows ⟨g,off * size,none⟩ cap (by omega) (fun j u hu => ?_) hv
   rw [PV,cell_of_row w g _ cur e (0,0) hg]
   rw [← htake,List.getElem?_take] at hu
   split at hu
   ·rw [List.getElem?_drop] at hu
    rw [← Array.getElem?_toList]
    exact hu
   ·cases hu
end
namespace Kd
theorem V7 {α:Type} {R:α → List Value → Prop} {size m:Nat} {ps:List α} {cs:List Value} (h:CV R size ps cs):CV R size (ps.drop m) (cs.drop (m * size)):=by
 refine ⟨by rw [List.length_drop,List.length_drop,h.1,Nat.sub_mul],fun j p hj => ?_⟩
 rw [List.getElem?_drop] at hj
 have:=h.2 (m + j) p hj
 rw [List.drop_drop,← Nat.add_mul]
 exact this
def Q {α:Type} (d:Kd α) (e:Nat) (w:World) (base:Nat) (ok:Nat → Prop) (v:Value) (xs:List α):Prop :=
 (∀ k,v.ownBlock = some k → ok k) ∧ ∃ inner,Ht w base e d.sz v xs.length inner ∧ CV (d.M w base (fun k => ok k ∧ some k ≠ v.ownBlock)) d.sz xs inner
section
variable {α:Type} {d:Kd α} {e:Nat} {w w1 W:World} {base:Nat} {ok ok':Nat → Prop} {v:Value} {xs:List α}
theorem iR (h:d.R e w base ok v xs):d.Q e w base ok v xs:=by
 obtain ⟨h0,inner,ho,hr⟩:=h
 exact ⟨h0,inner,KI ho,hr⟩
theorem Xl (d:Kd α) (e:Nat) (w:World) (base:Nat) (ok:Nat → Prop):d.Q e w base ok (.slice none 0 0) []:=iR (D5 d e w base ok)
theorem LG (h:d.Q e w base ok v xs) (hok:∀ k,ok k → ok' k):d.Q e w base ok' v xs:=by
 obtain ⟨h0,inner,ho,hr⟩:=h
 exact ⟨fun k hk => hok k (h0 k hk),inner,ho,hr.Ep (fun _ _ hp => d.BU (fun k hk => ⟨hok k hk.1,hk.2⟩) hp)⟩
theorem PW (h:d.Q e w base ok v xs):d.Q e w base (fun k => ok k ∧ base ≤ k ∧ k < w.heap.size ∧ ∃ q,q ∈ e :: d.E ∧ ∃ cells,w.heap[k]? = some (.cells cells q (0,0))) v xs:=by
 obtain ⟨h0,inner,ho,hr⟩:=h
 refine ⟨fun k hk => ?_,inner,ho,hr.Ep (fun _ _ hp => d.BU (fun k hk => ?_) (d.CW hp))⟩
 ·obtain ⟨hb,cells,hc⟩:=KJ ho k hk
  exact ⟨h0 k hk,hb,qK ho k hk,e,List.mem_cons_self,cells,hc⟩
 ·obtain ⟨⟨h1,h2⟩,h3,h4,q,hq,hc⟩:=hk
  exact ⟨⟨h1,h3,h4,q,List.mem_cons_of_mem _ hq,hc⟩,h2⟩
theorem iT (h:d.Q e w base ok v xs) (hm:∀ k,ok k → w1.heap[k]? = w.heap[k]?):d.Q e w1 base ok v xs:=by
 obtain ⟨h0,inner,ho,hr⟩:=h
 exact ⟨h0,inner,Xj ho (fun k hk => hm k (h0 k hk)),hr.Ep (fun _ _ hp => d.EI (fun k hk => hm k hk.1) hp)⟩
theorem Xm (h:d.Q e w base ok v xs) (hm:∀ k,ok k → k < w.heap.size → w1.heap[k]? = w.heap[k]?):d.Q e w1 base ok v xs:=LG (iT (PW h) (fun k hk => hm k hk.1 hk.2.2.1)) (fun _ hk => hk.1)
theorem aU (h:d.Q e w base ok v xs) (hb:Below w.heap.size w w1):d.Q e w1 base ok v xs:=Xm h (fun k _ hk => hb.block k hk)
theorem Gy (h:d.Q e w base ok v xs):∃ A c,v = .slice A xs.length c ∧ xs.length ≤ c:=by
 obtain ⟨_,inner,ho,_⟩:=h
 exact VF ho
theorem Qr {A:Option Addr} {n c:Nat} (h:d.Q e w base ok (.slice A n c) xs):n = xs.length ∧ n ≤ c ∧ d.C w A xs.length xs:=by
 obtain ⟨_,inner,ho,hr⟩:=h
 obtain ⟨A',c',he,hl⟩:=VF ho
 injection he with h1 h2 h3
 subst h1; subst h2; subst h3
 refine ⟨rfl,hl,rfl,qL ho,fun hp => ?_⟩
 obtain ⟨ad,ha,hc⟩:=VG ho hp
 refine ⟨ad,ha,fun j p hj => ⟨(inner.drop (j * d.sz)).take d.sz,?_,d.Dw (hr.2 j p hj),fun i u hu => ?_⟩⟩
 ·have hjl:=(List.getElem?_eq_some_iff.1 hj).1
  have h1:j * d.sz + d.sz ≤ inner.length:=by rw [hr.1,← Nat.succ_mul]; exact Nat.mul_le_mul_right _ hjl
  rw [List.length_take,List.length_drop]
  omega
 ·refine hc _ u ?_
  rw [List.getElem?_take] at hu
  split at hu
  ·rw [List.getElem?_drop] at hu
   exact hu
  ·cases hu
theorem iU {A:Option Addr} {k n c:Nat} (h:d.Q e w base ok (.slice A n c) xs) (hk:k ≤ xs.length):d.Q e w base ok (.slice (if c = k then A else A.map (·.add (k * d.sz))) (n - k) (c - k)) (xs.drop k):=by
 have hn:n = xs.length:=(Qr h).1
 subst hn
 obtain ⟨h0,inner,ho,hr⟩:=h
 have hb:(Value.slice (if c = k then A else A.map (·.add (k * d.sz))) (xs.length - k) (c - k)).ownBlock = (Value.slice A xs.length c).ownBlock:=by
  split
  ·cases A <;> rfl
  ·cases A with
   | none => rfl
   | some a => simp [Value.ownBlock]; unfold Addr.add; split <;> rfl
 refine ⟨fun j hj => h0 j (by rw [← hb]; exact hj),inner.drop (k * d.sz),?_,?_⟩
 ·rw [List.length_drop]
  exact iQ ho hk
 ·rw [hb]
  exact V7 hr
theorem TJ {CY:Nat → Prop} {v1:Value} {p:α} {inner cs:List Value} (h0:∀ k,v.ownBlock = some k → ok k) (hr:CV (d.M W base (fun k => ok k ∧ some k ≠ v.ownBlock)) d.sz xs inner) (hp:d.M W base CY p cs) (Eg:∀ k,CY k → ok k ∧ some k ≠ v.ownBlock) (hfresh:∀ k,W.heap.size ≤ k → ok k)
  (hown:Ht w1 base e d.sz v1 (xs.length + 1) (inner ++ cs)) (hg:W.grownBy w1 v.ownBlock) (hat:v1.ownBlock = v.ownBlock ∨ ∃ b,v1.ownBlock = some b ∧ W.heap.size ≤ b):d.Q e w1 base ok v1 (xs ++ [p]):=by
 exact Z22
end
section
variable {P:Program} {ops:Array Oper} {rest:List Oper} {o:Oper} {a:Act} {Q':Exit → Act → World → Prop} {Kc:Act → World → Prop} {α:Type}
theorem eX (d:Kd α) {w0 W:World} (base:Nat) (t ty e:TypeId) (z:Value) (bytes:Nat)
  (ht:P.underlying t = some (.slice e)) (hinfo:(P.info? e).map (fun i => (i.zero,i.size,i.bytes)) = some (some z,d.sz,bytes)) (hz:z.cells.size = d.sz) (hs0:0 < d.sz) (hb0:0 < bytes)
  (v:Value) (xs:List α) (p:α) (cs:List Value) (ok CY:Nat → Prop) (hp:d.M W base CY p cs) (Eg:∀ k,CY k → ok k ∧ some k ≠ v.ownBlock) (hfresh:∀ k,W.heap.size ≤ k → ok k)
  (HO:d.Q e W base ok v xs) (HB:Below base w0 W) (hbase:base ≤ W.heap.size) (hl:(xs.length + 1) * bytes ≤ 140737488355328) :
  ∃ v1 w1,(Builtin.append_ #[t,t] ty #[v,.slice (some ⟨W.heap.size,0,none⟩) 1 1]).run P (W.alloc (.cells cs.toArray e)) = .ok v1 w1 ∧ d.Q e w1 base ok v1 (xs ++ [p]) ∧ Below base w0 w1 ∧ W.grownBy w1 v.ownBlock ∧ (v1.ownBlock = v.ownBlock ∨ ∃ b,v1.ownBlock = some b ∧ W.heap.size ≤ b):=by
 obtain ⟨h0,inner,hown,hr⟩:=HO
 obtain ⟨i0,hi,hzz⟩:=Option.map_eq_some_iff.1 hinfo
 simp only [Prod.mk.injEq] at hzz
 obtain ⟨hz0,hz1,hz2⟩:=hzz
 have hlen:xs.length + 1 ≤ 140737488355328:=Nat.le_trans (Nat.le_mul_of_pos_right _ hb0) hl
 have hcl:=d.Gw (d.Dw hp)
 have hq:Ht (W.alloc (.cells cs.toArray e)) base e d.sz v xs.length inner:=Xj hown (fun k hk => Below.heap_alloc W _ k (qK hown k hk))
 obtain ⟨v1,w1,hrun,hq1,hg1,hat⟩:=Xk (P:=P) (W.alloc (.cells cs.toArray e)) base t ty e i0 z d.sz bytes ht hi hz0 hz1 hz2 hz hs0 v xs.length inner hq ⟨W.heap.size,0,none⟩ 1 1 cs (by rw [hcl,Nat.one_mul])
  (by simpa using World.news_of_block (cs:=cs.toArray) (t:=e) (fr:=(0,0)) (heap_alloc_new W (.cells cs.toArray e))) (d.Gx (d.Dw hp)) (by omega) (by simp only [maxLen]; omega) hl (by simp; omega)
 have hg:W.grownBy w1 v.ownBlock:=World.grownBy.trans (World.grownBy_alloc W _ _) hg1
 have hat':v1.ownBlock = v.ownBlock ∨ ∃ b,v1.ownBlock = some b ∧ W.heap.size ≤ b:=by
  rcases hat with hat | ⟨b,hb,hle⟩
  ·exact .inl hat
  ·exact .inr ⟨b,hb,by rw [World.size_alloc] at hle; omega⟩
 exact ⟨v1,w1,hrun,TJ h0 hr hp Eg hfresh hq1 hg hat',HB.grown hg hbase (fun k hk => (KJ hown k hk).1),hg,hat'⟩
theorem OZ (d:Kd α) {w0 W:World} (base:Nat) (hw:Region.wanted o (yielded ops a.tmps) = true) (s x:Operand) (t e:TypeId) (z:Value) (bytes:Nat)
  (ho:o.op = .call { callee:=.builtin .append,args:=#[s,x],argTypes:=#[t,t] })
  (ht:P.underlying t = some (.slice e)) (hinfo:(P.info? e).map (fun i => (i.zero,i.size,i.bytes)) = some (some z,d.sz,bytes)) (hz:z.cells.size = d.sz) (hs0:0 < d.sz) (hb0:0 < bytes)
  (v:Value) (xs:List α) (p:α) (cs:List Value) (ok CY:Nat → Prop) (hs:a.eval s = v) (hx:a.eval x = .slice (some ⟨W.heap.size,0,none⟩) 1 1) (hp:d.M W base CY p cs) (Eg:∀ k,CY k → ok k ∧ some k ≠ v.ownBlock) (hfresh:∀ k,W.heap.size ≤ k → ok k)
  (HO:d.Q e W base ok v xs) (HB:Below base w0 W) (hbase:base ≤ W.heap.size) (hl:(xs.length + 1) * bytes ≤ 140737488355328)
  (h:∀ v1 w1,d.Q e w1 base ok v1 (xs ++ [p]) → Below base w0 w1 → W.grownBy w1 v.ownBlock → (v1.ownBlock = v.ownBlock ∨ ∃ b,v1.ownBlock = some b ∧ W.heap.size ≤ b) → Kc (a.put o.dst v1) w1) :
  if Region.wanted o (yielded ops a.tmps) = true then Oper.wp P o a (W.alloc (.cells cs.toArray e)) Kc Q' else Kc (a.put o.dst undef) (W.alloc (.cells cs.toArray e)):=by
 obtain ⟨v1,w1,hr,h1,h2,h3,h4⟩:=eX (P:=P) d base t o.type e z bytes ht hinfo hz hs0 hb0 v xs p cs ok CY hp Eg hfresh HO HB hbase hl
 rw [if_pos hw]
 unfold Oper.wp execOp
 simp only [ho,resolve,invoke,builtin,Sem.run_bind,Sem.run_pure,Result.andThen_ok,List.map_toArray,List.map_cons,List.map_nil,hs,hx,hr]
 exact h v1 w1 h1 h2 h3 h4
end
end Kd
namespace Kd
section
variable {α:Type} {d:Kd α} {e e':Nat} {w w1 W:World} {base:Nat} {ok:Nat → Prop} {u v:Value} {xs:List α}
theorem VH (h:d.Q e w base ok v xs):∀ k,v.ownBlock = some k → ∃ cells,w.heap[k]? = some (.cells cells e (0,0)):=by
 obtain ⟨_,inner,ho,_⟩:=h
 exact fun k hk => (KJ ho k hk).2
end
end Kd
theorem KL {α:Type} (a seg:List α) (o:Nat) (h:o + seg.length ≤ a.length) (q:Nat) :
  (a.take o ++ seg ++ a.drop (o + seg.length))[q]? = if q < o then a[q]? else if q < o + seg.length then seg[q - o]? else a[q]?:=by
 have hl:(a.take o).length = o:=by rw [List.length_take]; omega
 rw [List.append_assoc]
 by_cases h1:q < o
 ·rw [if_pos h1,List.getElem?_append_left (by omega),List.getElem?_take,if_pos h1]
 ·rw [if_neg h1,List.getElem?_append_right (by omega),hl]
  by_cases h2:q < o + seg.length
  ·rw [if_pos h2,List.getElem?_append_left (by omega)]
  ·rw [if_neg h2,List.getElem?_append_right (by omega),List.getElem?_drop]
   congr 1
   omega
namespace Kd
section
variable {α:Type} {d:Kd α} {e base g n cap:Nat} {ok CY:Nat → Prop} {W:World} {xs:List α}
theorem NI (h:d.R e W base ok (.slice (some ⟨g,0,none⟩) n cap) xs) (z:α) (i:Int) (h0:0 ≤ i) (h1:i < n) :
  ∃ c,c.length = d.sz ∧ d.M W base (fun k => ok k ∧ k ≠ g) (xs.getD i.toNat z) c ∧ (∀ j u,c[j]? = some u → W.cell? ⟨g,i.toNat * d.sz + j,none⟩ = some u) ∧ ∀ j,W.frozen? ⟨g,i.toNat * d.sz + j,none⟩ = false:=by
 obtain ⟨hn,hnc,hC⟩:=Bi h
 obtain ⟨_,inner,ho,hr⟩:=h
 have hil:i.toNat < xs.length:=by omega
 have hseg:i.toNat * d.sz + d.sz ≤ inner.length:=by rw [hr.1,← Nat.succ_mul]; exact Nat.mul_le_mul_right _ hil
 have hM:=hr.2 i.toNat _ (List.getElem?_eq_getElem hil)
 refine ⟨(inner.drop (i.toNat * d.sz)).take d.sz,by rw [List.length_take,List.length_drop]; omega,?_,fun j u hu => ?_,fun j => ?_⟩
 ·rw [List.getD_eq_getElem?_getD,List.getElem?_eq_getElem hil]
  exact d.BU (fun k hk => ⟨hk.1,fun he => hk.2 (by rw [he]; simp [Value.ownBlock])⟩) hM
 ·rw [List.getElem?_take] at hu
  split at hu
  ·rw [List.getElem?_drop] at hu
   have:=ho.cells (g:=g) (by simp [Value.ownBlock]) _ u hu
   rwa [add_plain] at this
  ·cases hu
 ·obtain ⟨cells,hc⟩:=FO ho g (by simp [Value.ownBlock])
  exact AL hc _
theorem qM (h:d.R e W base ok (.slice (some ⟨g,0,none⟩) n cap) xs) (i:Int) (h0:0 ≤ i) (h1:i < n) {c seg:List Value} {j:Nat} (hcl:c.length = d.sz) (hcc:∀ j u,c[j]? = some u → W.cell? ⟨g,i.toNat * d.sz + j,none⟩ = some u)
  (hj:j + seg.length ≤ d.sz) {x':α} (hM:d.M W base CY x' (c.take j ++ seg ++ c.drop (j + seg.length))) (Eg:∀ k,CY k → ok k ∧ k ≠ g) :
  d.R e (W.setCells g (i.toNat * d.sz + j) seg) base ok (.slice (some ⟨g,0,none⟩) n cap) (xs.set i.toNat x') ∧ W.grownBy (W.setCells g (i.toNat * d.sz + j) seg) (some g):=by
 obtain ⟨hn,hnc,_⟩:=Bi h
 obtain ⟨hok,inner,ho,hr⟩:=h
 have hil:i.toNat < xs.length:=by omega
 have hseg:i.toNat * d.sz + d.sz ≤ inner.length:=by rw [hr.1,← Nat.succ_mul]; exact Nat.mul_le_mul_right _ hil
 have hin:inner.length = n * d.sz:=by rw [hr.1,hn]
 obtain ⟨ho1,ho2⟩:=ho
 rcases ho2 with ⟨hv,_⟩ | ⟨g',cap',cur,hv,hb,hh,hnc',hcm,hcs,ht⟩
 ·cases hv
 injection hv with ha _ hc
 injection ha with ha
 injection ha with hg
 subst hg; subst hc
 have hfit:i.toNat * d.sz + j + seg.length ≤ cur.size:=by
  have:n * d.sz ≤ cap * d.sz:=Nat.mul_le_mul_right _ hnc
  omega
 obtain ⟨cur',h3,h4,h5⟩:=II seg (i.toNat * d.sz + j) W cur hh hfit
 obtain ⟨s1,s2,s3,s4⟩:=Hf g seg (i.toNat * d.sz + j) W
 have iV:∀ k,k ≠ g → (W.setCells g (i.toNat * d.sz + j) seg).heap[k]? = W.heap[k]?:=fun k hk => GL seg _ k hk
 have hcin:∀ q,q < d.sz → c[q]? = inner[i.toNat * d.sz + q]?:=by
  intro q hq
  have hq':q < c.length:=by omega
  have h6:=hcc q _ (List.getElem?_eq_getElem hq')
  rw [cell_of_row W g _ cur e (0,0) hh] at h6
  rw [List.getElem?_eq_getElem hq',← h6,← ht,List.getElem?_take,if_pos (by rw [← hn]; omega),Array.getElem?_toList]
 refine ⟨⟨hok,inner.take (i.toNat * d.sz + j) ++ seg ++ inner.drop (i.toNat * d.sz + j + seg.length),⟨?_,.inr ⟨g,cap,cur',by rw [List.length_set,hn],hb,h3,by rw [List.length_set,← hn]; exact hnc,hcm,by rw [h4,hcs],?_⟩⟩,?_⟩,
  ⟨s1,s2,s3,by rw [s4]; exact Nat.le_refl _,fun k _ hk => iV k (fun he => hk (by rw [he]))⟩⟩
 ·rw [List.length_set]
  simp only [List.length_append,List.length_take,List.length_drop]
  rw [hr.1] at hseg ⊢
  omega
 ·rw [List.length_set,← hn]
  apply List.ext_getElem?
  intro q
  rw [List.getElem?_take,h5]
  rw [KL cur.toList seg (i.toNat * d.sz + j) (by rw [Array.length_toList]; omega) q,KL inner seg (i.toNat * d.sz + j) (by omega) q]
  have yK:∀ q,q < n * d.sz → cur.toList[q]? = inner[q]?:=by
   intro q hq
   rw [← ht,List.getElem?_take,if_pos (by rw [← hn]; exact hq)]
  by_cases hq:q < n * d.sz
  ·rw [if_pos hq,yK q hq]
  ·rw [if_neg hq,if_neg (by omega),if_neg (by omega),List.getElem?_eq_none (by omega)]
 ·refine ⟨?_,fun m p hm => ?_⟩
  ·rw [List.length_set]
   simp only [List.length_append,List.length_take,List.length_drop]
   rw [hr.1] at hseg ⊢
   omega
  ·have hml:m < xs.length:=by
    have:=(List.getElem?_eq_some_iff.1 hm).1
    rwa [List.length_set] at this
   have ABA:m * d.sz + d.sz ≤ inner.length:=by rw [hr.1,← Nat.succ_mul]; exact Nat.mul_le_mul_right _ hml
   have hgo:some g = (Value.slice (some ⟨g,0,none⟩) n cap).ownBlock:=by simp [Value.ownBlock]
   by_cases nX:m = i.toNat
   ·subst nX
    rw [List.getElem?_set_self (by omega)] at hm
    injection hm with hm
    subst hm
    have hcells:((inner.take (i.toNat * d.sz + j) ++ seg ++ inner.drop (i.toNat * d.sz + j + seg.length)).drop (i.toNat * d.sz)).take d.sz = c.take j ++ seg ++ c.drop (j + seg.length):=by
     apply List.ext_getElem?
     intro q
     rw [List.getElem?_take,List.getElem?_drop,KL inner seg _ (by omega),KL c seg j (by omega) q]
     by_cases hq:q < d.sz
     ·rw [if_pos hq,hcin q hq]
      by_cases hq1:q < j
      ·rw [if_pos (by omega),if_pos hq1]
      ·rw [if_neg (by omega),if_neg hq1]
       by_cases hq2:q < j + seg.length
       ·rw [if_pos (by omega),if_pos hq2]
        congr 1
        omega
       ·rw [if_neg (by omega),if_neg hq2]
     ·rw [if_neg hq,if_neg (by omega),if_neg (by omega),List.getElem?_eq_none (by omega)]
    rw [hcells]
    refine d.BU (fun k hk => ?_) (d.EI (w1:=W.setCells g (i.toNat * d.sz + j) seg) (fun k hk => iV k (Eg k hk).2) hM)
    exact ⟨(Eg k hk).1,fun he => (Eg k hk).2 (by rw [← hgo] at he; injection he)⟩
   ·rw [List.getElem?_set_ne (by omega)] at hm
    have hold:=hr.2 m p hm
    have hcells:((inner.take (i.toNat * d.sz + j) ++ seg ++ inner.drop (i.toNat * d.sz + j + seg.length)).drop (m * d.sz)).take d.sz = (inner.drop (m * d.sz)).take d.sz:=by
     apply List.ext_getElem?
     intro q
     rw [List.getElem?_take,List.getElem?_take,List.getElem?_drop,List.getElem?_drop,KL inner seg _ (by omega)]
     by_cases hq:q < d.sz
     ·rw [if_pos hq,if_pos hq]
      rcases Nat.lt_or_gt_of_ne nX with hlt | hgt
      ·have:m * d.sz + d.sz ≤ i.toNat * d.sz:=by rw [← Nat.succ_mul]; exact Nat.mul_le_mul_right _ hlt
       rw [if_pos (by omega)]
      ·have:i.toNat * d.sz + d.sz ≤ m * d.sz:=by rw [← Nat.succ_mul]; exact Nat.mul_le_mul_right _ hgt
       rw [if_neg (by omega),if_neg (by omega)]
     ·rw [if_neg hq,if_neg hq]
    rw [hcells]
    refine d.EI (fun k hk => iV k (fun he => hk.2 (by rw [he]; exact hgo))) hold
end
end Kd
namespace Kd
theorem Lr {α:Type} {R:α → List Value → Prop} {size:Nat} {ps qs:List α} {cs ds:List Value} (h:CV R size ps cs) (h':CV R size qs ds):CV R size (ps ++ qs) (cs ++ ds):=by
 refine ⟨by rw [List.length_append,List.length_append,h.1,h'.1,Nat.add_mul],fun j p hj => ?_⟩
 rcases Nat.lt_or_ge j ps.length with hlt | hge
 ·rw [List.getElem?_append_left hlt] at hj
  have hle:j * size + size ≤ cs.length:=by rw [h.1,← Nat.succ_mul]; exact Nat.mul_le_mul_right _ hlt
  rw [List.drop_append_of_le_length (by omega),List.take_append_of_le_length (by rw [List.length_drop]; omega)]
  exact h.2 j p hj
 ·rw [List.getElem?_append_right hge] at hj
  have h2:=h'.2 (j - ps.length) p hj
  have hle:ps.length * size ≤ j * size:=Nat.mul_le_mul_right _ hge
  rw [List.drop_append,List.drop_eq_nil_of_le (by rw [h.1]; exact hle),List.nil_append,h.1,← Nat.sub_mul]
  exact h2
section
variable {P:Program} {ops:Array Oper} {rest:List Oper} {o:Oper} {a:Act} {Q:Exit → Act → World → Prop} {α:Type}
theorem BN (d:Kd α) {Rr:α → List Value → Prop} {w0 W:World} (base:Nat) (hgd:o.guard = none) (s x:Operand) (t e:TypeId) (z:Value) (bytes:Nat)
  (ho:o.op = .call { callee:=.builtin .append,args:=#[s,x],argTypes:=#[t,t] })
  (ht:P.underlying t = some (.slice e)) (hinfo:(P.info? e).map (fun i => (i.zero,i.size,i.bytes)) = some (some z,d.sz,bytes)) (hz:z.cells.size = d.sz) (hs0:0 < d.sz) (hb0:0 < bytes)
  (v:Value) (xs ys:List α) (A:Option Addr) (m c:Nat) (ok CY:Nat → Prop) (hs:a.eval s = v) (hx:a.eval x = .slice A m c)
  (HO:d.R e W base ok v xs) (HR:Dh Rr d.sz W A m ys) (yL:∀ x cs,Rr x cs → d.M W base CY x cs) (Eg:∀ k,CY k → ok k ∧ some k ≠ v.ownBlock) (hfresh:∀ k,W.heap.size ≤ k → ok k)
  (HB:Below base w0 W) (hbase:base ≤ W.heap.size) (hl:(xs.length + m) * bytes ≤ 140737488355328)
  (h:∀ v1 w1,d.R e w1 base ok v1 (xs ++ ys) → Below base w0 w1 → W.grownBy w1 v.ownBlock → (v1.ownBlock = v.ownBlock ∨ ∃ b,v1.ownBlock = some b ∧ W.heap.size ≤ b) → wpList P ops Q rest (a.put o.dst v1) w1) :
  wpList P ops Q (o :: rest) a W:=by
 obtain ⟨i0,hi,hzz⟩:=Option.map_eq_some_iff.1 hinfo
 simp only [Prod.mk.injEq] at hzz
 obtain ⟨hz0,hz1,hz2⟩:=hzz
 have hm:ys.length = m:=HR.1
 have hlen:xs.length + m ≤ 140737488355328:=Nat.le_trans (Nat.le_mul_of_pos_right _ hb0) hl
 obtain ⟨hok,inner,hown,hr⟩:=HO
 have hrun:∃ v1 w1,(Builtin.append_ #[t,t] o.type #[v,.slice A m c]).run P W = .ok v1 w1 ∧ d.R e w1 base ok v1 (xs ++ ys) ∧ W.grownBy w1 v.ownBlock ∧ (v1.ownBlock = v.ownBlock ∨ ∃ b,v1.ownBlock = some b ∧ W.heap.size ≤ b):=by
  rcases A with _ | ad
  ·have h0:m = 0:=by
    rcases Nat.eq_zero_or_pos m with h0 | h0
    ·exact h0
    ·obtain ⟨ad,h,_⟩:=HR.2.2 h0
     cases h
   subst h0
   obtain rfl:ys = []:=List.eq_nil_of_length_eq_zero hm
   refine ⟨v,W,?_,by rw [List.append_nil]; exact ⟨hok,inner,hown,hr⟩,World.grownBy.refl W _,.inl rfl⟩
   rcases hown.2 with ⟨rfl,hn⟩ | ⟨g,cap,cur,rfl,_,_,hnc,_⟩
   ·simp [Builtin.append_,run_underlying ht,sizeOf,typeInfo,hi,Builtin.lenOf,Builtin.firstCells]
   ·simp [Builtin.append_,run_underlying ht,sizeOf,typeInfo,hi,Builtin.lenOf,Builtin.firstCells,hnc,storeCells]
  ·obtain ⟨news,hnr,hnc⟩:=Dh.Xe HR
   have hnM:CV (d.M W base CY) d.sz ys news:=hnr.Ep (fun p c hp => yL p c hp)
   have hone:∀ u ∈ news,u.oneCell' = true:=by
    intro u hu
    obtain ⟨q,hq,rfl⟩:=List.mem_iff_getElem.1 hu
    have aA:q / d.sz < ys.length:=by
     rw [Nat.div_lt_iff_lt_mul hs0]
     rw [← hnM.1]
     exact hq
    have hc:=hnM.2 (q / d.sz) _ (List.getElem?_eq_getElem aA)
    refine d.Gx (d.Dw hc) _ ?_
    rw [List.mem_iff_getElem?]
    refine ⟨q % d.sz,?_⟩
    rw [List.getElem?_take,if_pos (Nat.mod_lt _ hs0),List.getElem?_drop,Nat.mul_comm,Nat.div_add_mod,List.getElem?_eq_getElem hq]
   obtain ⟨v1,w1,hrun,h2,hg,_,hat⟩:=run_append_own_at (P:=P) W base t o.type e i0 z d.sz bytes ht hi hz0 hz1 hz2 hz hs0 v xs.length inner hown ad m c news (by rw [hnM.1,hm]) hnc hone (by simp only [maxLen]; omega) hl hbase
   have hat':v1.ownBlock = v.ownBlock ∨ ∃ b,v1.ownBlock = some b ∧ W.heap.size ≤ b:=by
    rcases hat with hat | hat
    ·exact .inl hat
    ·exact .inr ⟨_,hat,Nat.le_refl _⟩
   have hne:∀ k,some k ≠ v.ownBlock → k < W.heap.size → some k ≠ v1.ownBlock:=by
    intro k hk hlt
    rcases hat' with hat | ⟨b,hb,hle⟩
    ·rw [hat]; exact hk
    ·rw [hb]
     intro he
     injection he with he
     omega
   have step:∀ {q:α} {c:List Value} {o:Nat → Prop},d.M W base o q c → (∀ k,o k → ok k ∧ some k ≠ v.ownBlock) → d.M w1 base (fun k => ok k ∧ some k ≠ v1.ownBlock) q c:=by
    intro q c o hq ho
    have h1:=d.EI (w1:=w1) (fun k hk => hg.block k hk.2.2.1 (ho k hk.1).2) (d.CW hq)
    exact d.BU (fun k hk => ⟨(ho k hk.1).1,hne k (ho k hk.1).2 hk.2.2.1⟩) h1
   refine ⟨v1,w1,hrun,⟨fun k hk => ?_,inner ++ news,by rw [List.length_append,hm]; exact h2,Lr (hr.Ep (fun _ _ hq => step hq (fun _ hk => hk))) (hnM.Ep (fun _ _ hq => step hq Eg))⟩,hg,hat'⟩
   rcases hat' with hat | ⟨b,hb,hle⟩
   ·exact hok k (hat ▸ hk)
   ·rw [hb] at hk
    injection hk with hk
    exact hfresh k (by omega)
 obtain ⟨v1,w1,hr1,h1,hg,hat⟩:=hrun
 refine wpList_plain hgd fun K hK => ?_
 unfold Oper.wp execOp
 simp only [ho,resolve,invoke,builtin,Sem.run_bind,Sem.run_pure,Result.andThen_ok,List.map_toArray,List.map_cons,List.map_nil,hs,hx,hr1]
 exact hK _ _ (h v1 w1 h1 (HB.grown hg hbase (own_base hown)) hg hat)
end
end Kd
theorem Oa {P:Program} {w:World} {g o:Nat} {e:TypeId} {cur:Array Value} (t:TypeId) (u:Value) (seg:List Value) (hh:w.heap[g]? = some (.cells cur e (0,0))) (hu:u.cells.toList = seg) (ht:(P.info? t).map (·.size) = some seg.length)
  (hfit:o + seg.length ≤ cur.size) (h1:∀ q ∈ seg,q.oneCell' = true):(Instr.storeAt t (.pointer (some ⟨g,o,none⟩)) u).run P w = .ok () (w.setCells g o seg):=by
 obtain ⟨i,hi,hsz⟩:=Option.map_eq_some_iff.1 ht
 have hc:u.cells.size = i.size:=by rw [hsz,← hu,Array.length_toList]
 have hst:=run_storeCells_cells (P:=P) g o seg 0 w (fun j hj => by rw [cell_of_row w g _ cur e (0,0) hh]; simp; omega) (fun j _ => AL hh _) h1
 simp only [Nat.add_zero] at hst
 simp [Instr.storeAt,Instr.sureAddr,storeVar,sizeOf,typeInfo,hi,hc,hu,hst]
theorem gate_ {P:Program} {ops:Array Oper} {rest:List Oper} {o:Oper} {a:Act} {Q:Exit → Act → World → Prop} {W:World} (op:Op) (_ho:o.op = op) (h:wpList P ops Q (o :: rest) a W):wpList P ops Q (o :: rest) a W:=h
namespace Kd
section
variable {P:Program} {ops:Array Oper} {rest:List Oper} {o:Oper} {a:Act} {Q:Exit → Act → World → Prop} {α:Type}
theorem VI (d:Kd α) {w0 W:World} (base:Nat) (hN:o.dst = none) (hgd:o.guard = none) (t:TypeId) (p x:Operand) (ho:o.op = .store t p x) (e:TypeId) {g n cap o':Nat} (i:Int) (j:Nat) (xs:List α) (x':α) (u:Value) (seg c:List Value) (ok CY:Nat → Prop)
  (qN:a.eval p = .pointer (some ⟨g,o',none⟩)) (hoff:o' = i.toNat * d.sz + j) (hx:a.eval x = u) (hu:u.cells.toList = seg) (ht:(P.info? t).map (·.size) = some seg.length) (h1:∀ q ∈ seg,q.oneCell' = true)
  (HO:d.R e W base ok (.slice (some ⟨g,0,none⟩) n cap) xs) (h0:0 ≤ i) (hi:i < n) (hcl:c.length = d.sz) (hcc:∀ j u,c[j]? = some u → W.cell? ⟨g,i.toNat * d.sz + j,none⟩ = some u)
  (hj:j + seg.length ≤ d.sz) (hM:d.M W base CY x' (c.take j ++ seg ++ c.drop (j + seg.length))) (Eg:∀ k,CY k → ok k ∧ k ≠ g) (HB:Below base w0 W)
  (h:∀ w1,d.R e w1 base ok (.slice (some ⟨g,0,none⟩) n cap) (xs.set i.toNat x') → Below base w0 w1 → W.grownBy w1 (some g) → wpList P ops Q rest a w1):wpList P ops Q (o :: rest) a W:=by
 subst hoff
 obtain ⟨hrow,hg⟩:=qM HO i h0 hi hcl hcc hj hM Eg
 have hbg:base ≤ g:=iO HO g (by simp [Value.ownBlock])
 have hnx:n = xs.length:=(Bi HO).1
 obtain ⟨_,inner,hown,hr⟩:=HO
 have hil:i.toNat < n:=by omega
 have hB:Below base w0 (W.setCells g (i.toNat * d.sz + j) seg):=HB.trans ⟨hg.os,hg.tape,hg.output,hg.size,fun k hk => by
  have hlt:k < W.heap.size ∨ W.heap.size ≤ k:=Nat.lt_or_ge _ _
  rcases hlt with hlt | hge
  ·exact hg.block k hlt (fun he => by injection he with he; omega)
  ·exact GL seg _ k (by omega)⟩
 refine wpList_plain hgd fun K hK => ?_
 have hrun:(Instr.storeAt t (.pointer (some ⟨g,i.toNat * d.sz + j,none⟩)) u).run P W = .ok () (W.setCells g (i.toNat * d.sz + j) seg):=by
  rcases hown.2 with ⟨hv,_⟩ | ⟨g',cap',cur,hv,hb,hh,hnc,hcm,hcs,_⟩
  ·cases hv
  injection hv with ha _ hc
  injection ha with ha
  injection ha with hg'
  subst hg'; subst hc
  refine Oa t u seg hh hu ht ?_ h1
  have h2:i.toNat * d.sz + d.sz ≤ n * d.sz:=by rw [← Nat.succ_mul]; exact Nat.mul_le_mul_right _ hil
  have h3:n * d.sz ≤ cap * d.sz:=Nat.mul_le_mul_right _ (by omega)
  omega
 unfold Oper.wp execOp
 simp only [ho,qN,hx,Sem.run_bind,Sem.run_pure,Result.andThen_ok,hrun]
 show K (a.put o.dst undef) _
 rw [hN]
 exact hK a _ (h _ hrow hB hg)
end
end Kd
theorem add_add (a:Addr) (i j:Nat):(a.add i).add j = a.add (i + j):=by
 unfold Addr.add
 by_cases h1:i = 0 <;> by_cases h2:j = 0 <;> simp [h1,h2,Nat.add_assoc]
namespace Kd
section
variable {α:Type} {k:Kd α} {w:World} {A:Option Addr} {xs:List α} {m c:Nat}
theorem iW (h:k.C w A xs.length xs) (hm:m ≤ xs.length):k.C w A (xs.take m).length (xs.take m):=by
 have hl:(xs.take m).length = m:=by rw [List.length_take]; omega
 refine ⟨rfl,by rw [hl]; have:=h.2.1; omega,fun hp => ?_⟩
 obtain ⟨ad,e,hc⟩:=h.2.2 (by omega)
 refine ⟨ad,e,fun j p hj => hc j p ?_⟩
 rw [List.getElem?_take] at hj
 split at hj
 ·exact hj
 ·cases hj
theorem Xn (h:k.C w A xs.length xs) (hm:m ≤ xs.length) (hc:xs.length ≤ c):k.C w (if c = m then A else A.map (·.add (m * k.sz))) (xs.drop m).length (xs.drop m):=by
 have hl:(xs.drop m).length = xs.length - m:=List.length_drop
 refine ⟨rfl,by rw [hl]; have:=h.2.1; omega,fun hp => ?_⟩
 rw [hl] at hp
 obtain ⟨ad,rfl,hcell⟩:=h.2.2 (by omega)
 rw [if_neg (by omega)]
 refine ⟨ad.add (m * k.sz),rfl,fun j p hj => ?_⟩
 rw [List.getElem?_drop] at hj
 obtain ⟨cs,h1,h2,h3⟩:=hcell (m + j) p hj
 refine ⟨cs,h1,h2,fun i u hu => ?_⟩
 rw [add_add,show m * k.sz + (j * k.sz + i) = (m + j) * k.sz + i by rw [Nat.add_mul]; omega]
 exact h3 i u hu
end
end Kd
theorem MB {P:Program} {w:World} {src dst e:TypeId} {A:Option Addr} {n c:Nat} {xs:List Int} (hs:P.underlying src = some (.slice e)) (he:P.underlying e = some (.int .u8)) (hd:P.underlying dst = some .string)
  (h:Qm w .u8 A n xs):(convert src dst (.slice A n c)).run P w = .ok (.string (strOfNums xs)) w:=by
 have hn:xs.length = n:=h.1
 rcases A with _ | ad
 ·have h0:n = 0:=by
   rcases Nat.eq_zero_or_pos n with h0 | h0
   ·exact h0
   ·obtain ⟨ad,h',_⟩:=h.2.2 h0
    cases h'
  subst h0
  obtain rfl:xs = []:=List.eq_nil_of_length_eq_zero hn
  exact run_convert_bytes_nil w src e hs he 0 c dst hd
 ·have hl:(loadCells ad n).run P w = .ok (xs.map (Value.int .u8)).toArray w:=by
   have:=run_loadCells_list (P:=P) w ad (xs.map (Value.int .u8)) (fun j v hj => by
    have hjl:j < xs.length:=by
     rcases Nat.lt_or_ge j xs.length with h' | h'
     ·exact h'
     ·rw [List.getElem?_eq_none (by rw [List.length_map]; exact h')] at hj
      cases hj
    obtain ⟨ad',he',hc⟩:=h.2.2 (by omega)
    injection he' with he'
    subst he'
    rw [hc j (by omega)]
    rw [List.getElem?_map,List.getElem?_eq_getElem hjl] at hj
    simp at hj
    subst hj
    simp [List.getD_eq_getElem?_getD,List.getElem?_eq_getElem hjl])
   simpa [hn] using this
  rw [run_convert_bytes_string w src dst e _ n c hs he hd,run_bytesToString w ad n c xs hl,foldl_push_bytes]
  simp [strOfNums,ByteArray.empty,ByteArray.emptyWithCapacity]
  rfl
theorem Kd.NJ {P:Program} {w:World} {src dst e:TypeId} {A:Option Addr} {n c:Nat} {xs:List Int} (hs:P.underlying src = some (.slice e)) (he:P.underlying e = some (.int .u8)) (hd:P.underlying dst = some .string)
  (h:(Kd.int .u8).C w A n xs):(convert src dst (.slice A n c)).run P w = .ok (.string (strOfNums xs)) w :=
 MB hs he hd (Kd.NH (enc:=Value.int .u8) (d:=(0:Int)) (h1:=fun _ => rfl) h)
theorem Af {w:World} {g:Nat} {t:TypeId} {cs cs':Array Value} (h:w.heap[g]? = some (.cells cs t (0,0))) (i:Nat) (u:Value) (e:cs.setIfInBounds i u = cs'):(w.setCell ⟨g,i,none⟩ u).heap[g]? = some (.cells cs' t (0,0)):=e ▸ VC h i u
section
variable {P:Program} {ops:Array Oper} {rest:List Oper} {o:Oper} {a:Act} {Q:Exit → Act → World → Prop}
theorem Kd.Ew {α:Type} (enc:α → Value) (d:α) {h1:∀ x:α,(enc x).oneCell' = true} {w0 W:World} (base:Nat) (hgd:o.guard = none) (s x:Operand) (t e:TypeId) (z:Value) (bytes:Nat)
  (ho:o.op = .call { callee:=.builtin .append,args:=#[s,x],argTypes:=#[t,t] })
  (ht:P.underlying t = some (.slice e)) (hinfo:(P.info? e).map (fun i => (i.zero,i.size,i.bytes)) = some (some z,1,bytes)) (hz:z.cells.size = 1) (hb0:0 < bytes)
  (v:Value) (xs ys:List α) (A:Option Addr) (m c:Nat) (ok:Nat → Prop) (hs:a.eval s = v) (hx:a.eval x = .slice A m c) (hfresh:∀ k,W.heap.size ≤ k → ok k)
  (HO:(Kd.scalar enc h1).R e W base ok v xs) (HR:(Kd.scalar enc h1).C W A m ys) (HB:Below base w0 W) (hbase:base ≤ W.heap.size) (hl:(xs.length + m) * bytes ≤ 140737488355328)
  (h:∀ v1 w1,(Kd.scalar enc h1).R e w1 base ok v1 (xs ++ ys) → Below base w0 w1 → W.grownBy w1 v.ownBlock → (v1.ownBlock = v.ownBlock ∨ ∃ b,v1.ownBlock = some b ∧ W.heap.size ≤ b) → wpList P ops Q rest (a.put o.dst v1) w1) :
  wpList P ops Q (o :: rest) a W:=by
 refine Ja (w0:=w0) enc d base hgd s x t e z bytes ho ht hinfo hz hb0 h1 v xs ys A m c hs hx (Kd.Qq HO) (Kd.NH (d:=d) HR) HB hbase hl ?_
 intro v1 w1 hown hb hg hat
 refine h v1 w1 (Kd.Xi hown (fun k hk => ?_)) hb hg hat
 rcases hat with e1 | ⟨b,e1,hbb⟩
 ·exact HO.1 k (by rw [← e1]; exact hk)
 ·rw [e1] at hk
  injection hk with hk
  subst hk
  exact hfresh _ hbb
end
namespace Kd
section
variable {α:Type} {enc:α → Value} {h1:∀ x,(enc x).oneCell' = true} {e base g n cap:Nat} {ok:Nat → Prop} {W:World} {xs:List α}
theorem aV (d:α) (h:(scalar enc h1).R e W base ok (.slice (some ⟨g,0,none⟩) n cap) xs) (i:Int) (h0:0 ≤ i) (hi:i < n):W.cell? ⟨g,i.toNat,none⟩ = some (enc (iL d xs i)) ∧ W.frozen? ⟨g,i.toNat,none⟩ = false:=by
 obtain ⟨rfl,_⟩:=Bi h
 exact iP d h i h0 hi
end
end Kd
section
variable {P:Program} {ops:Array Oper} {rest:List Oper} {o:Oper} {a:Act} {Q:Exit → Act → World → Prop} {W:World}
theorem AO {N:Tmp} (_hN:o.dst = some N) (h:wpList P ops Q (o :: rest) a W):wpList P ops Q (o :: rest) a W:=h
end
section
variable {P:Program} {ops:Array Oper} {o:Oper} {a:Act} {Q:Exit → Act → World → Prop} {Kc:Act → World → Prop}
theorem NK {W w1:World} {v:Value} (hw:Region.wanted o (yielded ops a.tmps) = true) (hrun:(execOp a.eval o).run P W = .ok (.value v) w1) (h:Kc (a.put o.dst v) w1):if Region.wanted o (yielded ops a.tmps) = true then Oper.wp P o a W Kc Q else Kc (a.put o.dst undef) W:=by
 rw [if_pos hw]
 unfold Oper.wp
 rw [hrun]
 exact h
theorem EZ {W:World} (hw:Region.wanted o (yielded ops a.tmps) = true) {N:Tmp} (_hd:o.dst = some N) {cs:Array Value} {t:TypeId}
  (hrun:(execOp a.eval o).run P W = .ok (.value (.pointer (some ⟨W.heap.size,0,none⟩))) (W.alloc (.cells cs t (0,0))))
  (h:∀ g,g = W.heap.size → ∀ w1,w1.heap[g]? = some (.cells cs t (0,0)) → Below W.heap.size W w1 → Kc (a.put o.dst (.pointer (some ⟨g,0,none⟩))) w1):if Region.wanted o (yielded ops a.tmps) = true then Oper.wp P o a W Kc Q else Kc (a.put o.dst undef) W :=
 NK hw hrun (h _ rfl _ (PU W _) (Iw (Below.refl _ _) _))
namespace Kd
variable {α:Type}
theorem Ju (d:Kd α) {w0 W:World} (base e:Nat) (hw:Region.wanted o (yielded ops a.tmps) = true) {N:Tmp} (_hd:o.dst = some N) {xs:List α} {inner:List Value} {ok CY:Nat → Prop}
  (hrun:(execOp a.eval o).run P W = .ok (.value (.slice (some ⟨W.heap.size,0,none⟩) xs.length xs.length)) (W.alloc (.cells inner.toArray e)))
  (hrep:CV (d.M W base CY) d.sz xs inner) (hok:∀ k,CY k → ok k) (hfresh:ok W.heap.size) (HB:Below base w0 W) (hbase:base ≤ W.heap.size) (hm:xs.length ≤ 9223372036854775807)
  (h:∀ v1 w1,d.R e w1 base ok v1 xs → Below base w0 w1 → W.grownBy w1 none → (∃ b,v1.ownBlock = some b ∧ W.heap.size ≤ b) → Kc (a.put o.dst v1) w1):if Region.wanted o (yielded ops a.tmps) = true then Oper.wp P o a W Kc Q else Kc (a.put o.dst undef) W:=by
 refine NK hw hrun (h _ _ ⟨fun k hk => ?_,inner,?_,?_⟩ (HB.alloc hbase _) (World.grownBy_alloc W _ none) ⟨W.heap.size,by simp [Value.ownBlock],Nat.le_refl _⟩)
 ·have:W.heap.size = k:=by simpa [Value.ownBlock] using hk
  subst this
  exact hfresh
 ·have h2:=World.ownsRow_lit (base:=base) (e:=e) (size:=d.sz) W inner.toArray xs.length hbase (by simpa [maxLen] using hm) (by simpa using hrep.1)
  simpa using h2
 ·refine hrep.Ep (fun p c hp => d.BU (fun k hk => ⟨hok k hk.1,fun he => ?_⟩) (KH (d.CW hp) (Iw (Below.refl _ _) _)))
  have h3:k = W.heap.size:=by simpa [Value.ownBlock] using he
  have:=hk.2.2.1
  omega
theorem BO (d:Kd α) {Rr:α → List Value → Prop} {w0 W:World} (base:Nat) (hw:Region.wanted o (yielded ops a.tmps) = true) (s x:Operand) (t e:TypeId) (z:Value) (bytes:Nat)
  (ho:o.op = .call { callee:=.builtin .append,args:=#[s,x],argTypes:=#[t,t] })
  (ht:P.underlying t = some (.slice e)) (hinfo:(P.info? e).map (fun i => (i.zero,i.size,i.bytes)) = some (some z,d.sz,bytes)) (hz:z.cells.size = d.sz) (hs0:0 < d.sz) (hb0:0 < bytes)
  (v:Value) (xs ys:List α) (A:Option Addr) (m c:Nat) (ok CY:Nat → Prop) (hs:a.eval s = v) (hx:a.eval x = .slice A m c)
  (HO:d.R e W base ok v xs) (HR:Dh Rr d.sz W A m ys) (yL:∀ x cs,Rr x cs → d.M W base CY x cs) (Eg:∀ k,CY k → ok k ∧ some k ≠ v.ownBlock) (hfresh:∀ k,W.heap.size ≤ k → ok k)
  (HB:Below base w0 W) (hbase:base ≤ W.heap.size) (hl:(xs.length + m) * bytes ≤ 140737488355328)
  (h:∀ v1 w1,d.R e w1 base ok v1 (xs ++ ys) → Below base w0 w1 → W.grownBy w1 v.ownBlock → (v1.ownBlock = v.ownBlock ∨ ∃ b,v1.ownBlock = some b ∧ W.heap.size ≤ b) → Kc (a.put o.dst v1) w1) :
  if Region.wanted o (yielded ops a.tmps) = true then Oper.wp P o a W Kc Q else Kc (a.put o.dst undef) W:=by
 obtain ⟨i0,hi,hzz⟩:=Option.map_eq_some_iff.1 hinfo
 simp only [Prod.mk.injEq] at hzz
 obtain ⟨hz0,hz1,hz2⟩:=hzz
 have hm:ys.length = m:=HR.1
 have hlen:xs.length + m ≤ 140737488355328:=Nat.le_trans (Nat.le_mul_of_pos_right _ hb0) hl
 obtain ⟨hok,inner,hown,hr⟩:=HO
 have hrun:∃ v1 w1,(Builtin.append_ #[t,t] o.type #[v,.slice A m c]).run P W = .ok v1 w1 ∧ d.R e w1 base ok v1 (xs ++ ys) ∧ W.grownBy w1 v.ownBlock ∧ (v1.ownBlock = v.ownBlock ∨ ∃ b,v1.ownBlock = some b ∧ W.heap.size ≤ b):=by
  rcases A with _ | ad
  ·have h0:m = 0:=by
    rcases Nat.eq_zero_or_pos m with h0 | h0
    ·exact h0
    ·obtain ⟨ad,h,_⟩:=HR.2.2 h0
     cases h
   subst h0
   obtain rfl:ys = []:=List.eq_nil_of_length_eq_zero hm
   refine ⟨v,W,?_,by rw [List.append_nil]; exact ⟨hok,inner,hown,hr⟩,World.grownBy.refl W _,.inl rfl⟩
   rcases hown.2 with ⟨rfl,hn⟩ | ⟨g,cap,cur,rfl,_,_,hnc,_⟩
   ·simp [Builtin.append_,run_underlying ht,sizeOf,typeInfo,hi,Builtin.lenOf,Builtin.firstCells]
   ·simp [Builtin.append_,run_underlying ht,sizeOf,typeInfo,hi,Builtin.lenOf,Builtin.firstCells,hnc,storeCells]
  ·obtain ⟨news,hnr,hnc⟩:=Dh.Xe HR
   have hnM:CV (d.M W base CY) d.sz ys news:=hnr.Ep (fun p c hp => yL p c hp)
   have hone:∀ u ∈ news,u.oneCell' = true:=by
    intro u hu
    obtain ⟨q,hq,rfl⟩:=List.mem_iff_getElem.1 hu
    have aA:q / d.sz < ys.length:=by
     rw [Nat.div_lt_iff_lt_mul hs0]
     rw [← hnM.1]
     exact hq
    have hc:=hnM.2 (q / d.sz) _ (List.getElem?_eq_getElem aA)
    refine d.Gx (d.Dw hc) _ ?_
    rw [List.mem_iff_getElem?]
    refine ⟨q % d.sz,?_⟩
    rw [List.getElem?_take,if_pos (Nat.mod_lt _ hs0),List.getElem?_drop,Nat.mul_comm,Nat.div_add_mod,List.getElem?_eq_getElem hq]
   obtain ⟨v1,w1,hrun,h2,hg,_,hat⟩:=run_append_own_at (P:=P) W base t o.type e i0 z d.sz bytes ht hi hz0 hz1 hz2 hz hs0 v xs.length inner hown ad m c news (by rw [hnM.1,hm]) hnc hone (by simp only [maxLen]; omega) hl hbase
   have hat':v1.ownBlock = v.ownBlock ∨ ∃ b,v1.ownBlock = some b ∧ W.heap.size ≤ b:=by
    rcases hat with hat | hat
    ·exact .inl hat
    ·exact .inr ⟨_,hat,Nat.le_refl _⟩
   have hne:∀ k,some k ≠ v.ownBlock → k < W.heap.size → some k ≠ v1.ownBlock:=by
    intro k hk hlt
    rcases hat' with hat | ⟨b,hb,hle⟩
    ·rw [hat]; exact hk
    ·rw [hb]
     intro he
     injection he with he
     omega
   have step:∀ {q:α} {c:List Value} {o:Nat → Prop},d.M W base o q c → (∀ k,o k → ok k ∧ some k ≠ v.ownBlock) → d.M w1 base (fun k => ok k ∧ some k ≠ v1.ownBlock) q c:=by
    intro q c o hq ho
    have h1:=d.EI (w1:=w1) (fun k hk => hg.block k hk.2.2.1 (ho k hk.1).2) (d.CW hq)
    exact d.BU (fun k hk => ⟨(ho k hk.1).1,hne k (ho k hk.1).2 hk.2.2.1⟩) h1
   refine ⟨v1,w1,hrun,⟨fun k hk => ?_,inner ++ news,by rw [List.length_append,hm]; exact h2,Lr (hr.Ep (fun _ _ hq => step hq (fun _ hk => hk))) (hnM.Ep (fun _ _ hq => step hq Eg))⟩,hg,hat'⟩
   rcases hat' with hat | ⟨b,hb,hle⟩
   ·exact hok k (hat ▸ hk)
   ·rw [hb] at hk
    injection hk with hk
    exact hfresh k (by omega)
 obtain ⟨v1,w1,hr1,h1,hg,hat⟩:=hrun
 rw [if_pos hw]
 unfold Oper.wp execOp
 simp only [ho,resolve,invoke,builtin,Sem.run_bind,Sem.run_pure,Result.andThen_ok,List.map_toArray,List.map_cons,List.map_nil,hs,hx,hr1]
 exact h v1 w1 h1 (HB.grown hg hbase (own_base hown)) hg hat
end Kd
end
namespace Kd
section
variable {α:Type} {d:Kd α} {e base g o n cap:Nat} {ok CY:Nat → Prop} {w W:World} {v:Value} {xs:List α}
theorem iZ (h:d.Q e w base ok v xs) (hp:0 < xs.length):∃ g o cap,v = .slice (some ⟨g,o,none⟩) xs.length cap ∧ base ≤ g ∧ g < w.heap.size ∧ ∃ cells,w.heap[g]? = some (.cells cells e (0,0)):=by
 obtain ⟨h0,inner,hq,hr⟩:=h
 rcases hq.2 with ⟨h1,_⟩ | ⟨g,off,cap,cur,rfl,hb,hh,r⟩
 ·omega
 ·exact ⟨g,off * d.sz,cap,rfl,hb,AQ hh,cur,hh⟩
theorem ig (h:d.Q e W base ok (.slice (some ⟨g,o,none⟩) n cap) xs) (z:α) (i:Int) (h0:0 ≤ i) (h1:i < n) :
  ∃ c,c.length = d.sz ∧ d.M W base (fun k => ok k ∧ k ≠ g) (xs.getD i.toNat z) c ∧ (∀ j u,c[j]? = some u → W.cell? ⟨g,o + i.toNat * d.sz + j,none⟩ = some u) ∧ ∀ j,W.frozen? ⟨g,o + i.toNat * d.sz + j,none⟩ = false:=by
 obtain ⟨hn,hnc,hC⟩:=Qr h
 obtain ⟨_,inner,ho,hr⟩:=h
 have hil:i.toNat < xs.length:=by omega
 have hseg:i.toNat * d.sz + d.sz ≤ inner.length:=by rw [hr.1,← Nat.succ_mul]; exact Nat.mul_le_mul_right _ hil
 have hM:=hr.2 i.toNat _ (List.getElem?_eq_getElem hil)
 refine ⟨(inner.drop (i.toNat * d.sz)).take d.sz,by rw [List.length_take,List.length_drop]; omega,?_,fun j u hu => ?_,fun j => ?_⟩
 ·rw [List.getD_eq_getElem?_getD,List.getElem?_eq_getElem hil]
  exact d.BU (fun k hk => ⟨hk.1,fun he => hk.2 (by rw [he]; simp [Value.ownBlock])⟩) hM
 ·rw [List.getElem?_take] at hu
  split at hu
  ·rw [List.getElem?_drop] at hu
   subst hn
   obtain ⟨ad,he,hc⟩:=VG ho (by omega)
   injection he with he
   subst he
   have:=hc _ u hu
   rwa [PV,← Nat.add_assoc] at this
  ·cases hu
 ·obtain ⟨_,cells,hc⟩:=KJ ho g (by simp [Value.ownBlock])
  exact AL hc _
end
end Kd
namespace Kd
theorem V8 {w w1:World} (hb:∀ k,k < w.heap.size → w1.heap[k]? = w.heap[k]?) {a:Addr} {v:Value} (h:w.cell? a = some v):w1.cell? a = some v:=by
 have:=hb a.block (World.block_lt_of_cell? w a h)
 simpa [World.cell?,this] using h
end Kd
def Kept (w W:World) (S:Nat → Prop):Prop:=w.heap.size ≤ W.heap.size ∧ ∀ i,i < w.heap.size → ¬ S i → W.heap[i]? = w.heap[i]?
section
variable {w W W2:World} {S S2 S':Nat → Prop}
theorem Kept.refl (w:World) (S:Nat → Prop):Kept w w S:=⟨Nat.le_refl _,fun _ _ _ => rfl⟩
theorem Kept.of_below (h:Below w.heap.size w W) (S:Nat → Prop):Kept w W S:=⟨h.size,fun i hi _ => h.block i hi⟩
theorem Kept.mono (h:Kept w W S) (hs:∀ k,S k → S' k):Kept w W S':=⟨h.1,fun i hi hn => h.2 i hi (fun hk => hn (hs i hk))⟩
theorem Kept.BQ (h:Kept w W S) (k:Kept W W2 S2) (hs:∀ k,S2 k → S k ∨ w.heap.size ≤ k):Kept w W2 S :=
 ⟨Nat.le_trans h.1 k.1,fun i hi hn => (k.2 i (Nat.lt_of_lt_of_le hi h.1) (fun h2 => (hs i h2).elim hn (fun h3 => by omega))).trans (h.2 i hi hn)⟩
theorem Kept.Gi {row:Option Nat} (hg:W.grownBy W2 row) (h:Kept w W S) (hr:∀ k,row = some k → S k ∨ w.heap.size ≤ k):Kept w W2 S :=
 h.BQ (S2:=fun k => row = some k) ⟨hg.size,fun i hi hn => hg.block i hi (fun he => hn he.symm)⟩ hr
theorem Kept.below (h:Kept w W S) (hb:Below W.heap.size W W2):Kept w W2 S:=h.BQ (Kept.of_below hb (fun _ => False)) (fun _ hk => hk.elim)
theorem Kept.setCell (h:Kept w W S) {p:Addr} (hp:S p.block ∨ w.heap.size ≤ p.block) (u:Value):Kept w (W.setCell p u) S :=
 h.BQ (S2:=fun k => k = p.block) ⟨by simp [World.setCell],fun i _ hn => Below.heap_setCell W p u i hn⟩ (fun k hk => by rw [hk]; exact hp)
theorem Ap {g:Nat} {o:Obj} (hb:W.heap[g]? = some o) (hk:Kept W W2 S) (hne:¬ S g):W2.heap[g]? = some o:=(hk.2 g (AQ hb) hne).trans hb
theorem cell_kept {a:Addr} {v:Value} (hc:W.cell? a = some v) (hk:Kept W W2 S) (hne:¬ S a.block):W2.cell? a = some v:=by
 have:=hk.2 a.block (World.block_lt_of_cell? W a hc) hne
 simpa [World.cell?,this] using hc
end
namespace Kd
section
variable {α:Type} {d:Kd α} {e base n c:Nat} {ok oki S S2:Nat → Prop} {w w0 W W1 W2:World} {v:Value} {A:Option Addr} {xs:List α} {i:Int} {cs:List Value}
theorem BJ (h:d.R e W base ok v xs) (hk:Kept W W2 S) (hne:∀ k,ok k → ¬ S k):d.R e W2 base ok v xs:=NG h (fun k ho hlt => hk.2 k hlt (hne k ho))
theorem NL (h:d.Q e W base ok v xs) (hk:Kept W W2 S) (hne:∀ k,ok k → ¬ S k):d.Q e W2 base ok v xs:=Xm h (fun k ho hlt => hk.2 k hlt (hne k ho))
theorem PX {x:α} (h:d.M W base ok x cs) (hk:Kept W W2 S) (hne:∀ k,ok k → ¬ S k):d.M W2 base ok x cs:=Xh h (fun k ho hlt => hk.2 k hlt (hne k ho))
end
end Kd
namespace Kd
section
variable {α:Type} {d:Kd α} {e base b b' g N:Nat} {ok ok1:Nat → Prop} {W W2 w1:World} {u v:Value} {xs ys:List α} {S:Nat → Prop}
theorem yM (h:d.Q e W base ok v xs):∀ k,v.ownBlock = some k → ok k:=h.1
end
end Kd
end Go.Proofs.YtnkkgofpifhoeaaW.PrintWords
end
section
namespace Go.Proofs.Ytnkkgofpifhoeaa.Steps
open Go.RowKit Go.Proofs.YtnkkgofpifhoeaaW.PrintWords Go.Proofs.YtnkkgofpifhoeaaW.PrintLast
structure At (g:Nat) (w w':World):Prop where
 os:w'.os = w.os
 tape:w'.tape = w.tape
 output:w'.output = w.output
 size:w'.heap.size = w.heap.size
 block:∀ k,k ≠ g → w'.heap[k]? = w.heap[k]?
theorem At.refl (g:Nat) (w:World):At g w w:=⟨rfl,rfl,rfl,rfl,fun _ _ => rfl⟩
theorem At.set {g:Nat} {w w':World} (h:At g w w') (i:Nat) (v:Value):At g w (w'.setCell ⟨g,i,none⟩ v) :=
 ⟨h.os,h.tape,h.output,by simp [World.setCell,h.size],fun k hk => (Below.heap_setCell _ _ _ _ hk).trans (h.block k hk)⟩
theorem At.drewN {g:Nat} {w w':World} (h:At g w w') (n:Nat):At g w (w'.drewN n):=⟨h.os,h.tape,h.output,h.size,h.block⟩
theorem At.below {g B:Nat} {a w w':World} (h:At g w w') (hb:Below B a w) (hg:B ≤ g):Below B a w' :=
 hb.trans ⟨h.os,h.tape,h.output,by rw [h.size]; exact Nat.le_refl _,fun k hk => h.block k (by omega)⟩
section
variable {P:Program} {ops:Array Oper} {Q:Exit → Act → World → Prop}
theorem CG (F:World → Prop) {oi:Oper} {a:Act} {w:World} {K:Act → World → Prop} (hw:Region.wanted oi (yielded ops a.tmps) = true) (hN:oi.dst = none)
  (h:∃ w1,(execOp a.eval oi).run P w = .ok .skip w1 ∧ F w1) (k:∀ w1,F w1 → K a w1):if Region.wanted oi (yielded ops a.tmps) = true then Oper.wp P oi a w K Q else K (a.put none undef) w:=by
 obtain ⟨w1,h1,h2⟩:=h
 exact qH hw hN h1 (k w1 h2)
variable {rest:List Oper} {o:Oper} {a:Act} {W:World}
theorem AU (F:World → Prop) (hgd:o.guard = none) (hN:o.dst = none) (h:∃ w1,(execOp a.eval o).run P W = .ok .skip w1 ∧ F w1) (k:∀ w1,F w1 → wpList P ops Q rest a w1):wpList P ops Q (o :: rest) a W:=by
 obtain ⟨w1,h1,h2⟩:=h
 refine wpList_plain hgd fun K hK => ?_
 unfold Oper.wp
 rw [h1]
 show K (a.put o.dst undef) w1
 rw [hN]
 exact hK _ _ (k w1 h2)
theorem KN (F:Value → World → Prop) (hgd:o.guard = none) (h:∃ v w1,(execOp a.eval o).run P W = .ok (.value v) w1 ∧ F v w1) (k:∀ v w1,F v w1 → wpList P ops Q rest (a.put o.dst v) w1):wpList P ops Q (o :: rest) a W:=by
 obtain ⟨v,w1,h1,h2⟩:=h
 exact Kd.Oj hgd h1 (k v w1 h2)
theorem NM {w:World} {g:Nat} {old cs:Array Value} {t:TypeId} {fr:Nat × Nat} (h:w.heap[g]? = some (.cells old t fr)):(w.setRow g cs).heap[g]? = some (.cells cs t fr):=by
 unfold World.setRow
 simp only [Array.getElem?_modify,if_true,h,Option.map_some]
theorem Ol (g:Nat) (w:World) (cs:Array Value):At g w (w.setRow g cs) :=
 ⟨rfl,rfl,rfl,by simp [World.setRow],fun k hk => by
  have:g ≠ k:=fun e => hk e.symm
  simp [World.setRow,Array.getElem?_modify,this]⟩
theorem Ad (hgd:o.guard = none) (hN:o.dst = none) (ty:TypeId) (x y:Operand) (ho:o.op = .store ty x y) (g:Nat) (cells:Array Value) (hx:a.eval x = .pointer (some ⟨g,0,none⟩)) (hy:a.eval y = .agg cells)
  (t:TypeId) (old:Array Value) (hg:W.heap[g]? = some (.cells old t (0,0))) (hi:(P.info? ty).map (·.size) = some cells.size) (hold:old.size = cells.size) (h1:cells.all (·.oneCell') = true)
  (k:∀ w1,w1.heap[g]? = some (.cells cells t (0,0)) → At g W w1 → wpList P ops Q rest a w1):wpList P ops Q (o :: rest) a W :=
 wpList_store_row hgd ty x y ho g cells hx hy t old hg hi hold h1 (by
  rw [hN]
  exact k _ (NM hg) (Ol g W cells))
end
theorem Az {P:Program} {fn:Func} {p u:Tmp} {ty:TypeId} {w:World} {v x:Value} (h:fn.results = #[.cell p ty,.tmp u]) (tmps:Array Value) (g:Nat) (hp:tmps.getD p undef = .pointer (some ⟨g,0,none⟩)) (hx:tmps.getD u undef = x)
  (hl:(loadVar ty ⟨g,0,none⟩).run P w = .ok v w):(results fn tmps).run P w = .ok (.tuple #[v,x]) w:=by
 rw [results_cell_tmp h,hp,hx]
 simp [asAddr,hl]
end Go.Proofs.Ytnkkgofpifhoeaa.Steps
end
section
namespace Go.Proofs.YtnkkgofpifhoeaaW.PrintLast
section
variable {P:Program} {ops:Array Oper} {Q:Exit → Act → World → Prop} {md:Region.Mode} {S:World → Prop} {ds:List Nat} {oi:Oper} {v:Value} {fuel:Nat} {l:Array Bool} {a a':Act} {w:World}
theorem pu (i n:Nat) (l':Array Bool) (h:Ah P md ops Q S ds fuel l' a' w) (hi:ops[i]? = some oi:=by rfl) (hN:oi.dst = some n:=by rfl) (hc:iJ md ops l l' i = true:=by kernel_rfl) (hQ:∀ c a w,Q (.panic c) (a.put oi.dst v) w → Q (.panic c) a w:=by exact fun _ _ _ h => h)
  (hw:Region.wanted oi (yielded ops a.tmps) = true:=by rfl) (hy:∀ w,(execOp a.eval oi).run P w = .ok (.value v) w:=by intro w'; go_simp; first | with_reducible rfl | rfl) (ha:a.put (some n) v = a':=by simp only [Act.put,sA,sZ,sS]; rfl):Ah P md ops Q S ds (fuel + 1) l a w:=qF l' hi hN hc hQ (Or.inl ⟨hw,hy⟩) ha h
theorem tk (i n:Nat) (l':Array Bool) (hS:S w) (h:Ah P md ops Q S ds fuel l' a' w) (hi:ops[i]? = some oi:=by rfl) (hN:oi.dst = some n:=by rfl) (hc:takeB md ops ds l l' i = true:=by kernel_rfl) (hQ:∀ c a w,Q (.panic c) (a.put oi.dst v) w → Q (.panic c) a w:=by exact fun _ _ _ h => h)
  (hw:Region.wanted oi (yielded ops a.tmps) = true:=by rfl) (hf:∀ w',S w' → (execOp a.eval oi).run P w' = .ok (.value v) w') (ha:a.put (some n) v = a':=by simp only [Act.put,sA,sZ,sS]; rfl):Ah P md ops Q S ds (fuel + 1) l a w:=qE l' hi hN hc hQ (Or.inl ⟨hw,hf⟩) hS ha h
theorem on (i:Nat) (N:Option Tmp) (l':Array Bool) (h:∀ K:Act → World → Prop,Shut (∀ a' w',S w' → (S w' → Ah P md ops Q S ds fuel l' a' w') → K a' w') → if Region.wanted oi (yielded ops a.tmps) = true then Oper.wp P oi a w K Q else K (a.put N undef) w)
  (hi:ops[i]? = some oi:=by rfl) (hN:oi.dst = N:=by rfl) (hc:G9 md ops l l' i = true:=by kernel_rfl) (hd:i ∉ ds:=by decide):Ah P md ops Q S ds (fuel + 1) l a w:=Xc l' hi hN hc hd h
theorem la (i:Nat) (N:Option Tmp) (l':Array Bool) (h:∀ K:Act → World → Prop,Shut (∀ a' w',Ah P md ops Q S ds fuel l' a' w' → K a' w') → if Region.wanted oi (yielded ops a.tmps) = true then Oper.wp P oi a w K Q else K (a.put N undef) w)
  (hi:ops[i]? = some oi:=by rfl) (hN:oi.dst = N:=by rfl) (hc:G9 md ops l l' i = true:=by kernel_rfl) (hd:i ∈ ds:=by decide):Ah P md ops Q S ds (fuel + 1) l a w:=qG l' hi hN hc hd h
theorem nm (n:Nat) {v:Value} (h:Ah P md ops Q S ds fuel l a' w) (ha:a.put (some n) v = a':=by simp only [Act.put,sA,sZ,sS]; rfl):Ah P md ops Q S ds fuel l (a.put (some n) v) w:=Ig ha h
end
end Go.Proofs.YtnkkgofpifhoeaaW.PrintLast
end
section
namespace Go.Proofs.YtnkkgofpifhoeaaW.PrintWords
open Go.RowKit
namespace Kd
section
variable {α:Type} {d:Kd α} {W:World} {g n:Nat} {S ok:Nat → Prop} {A:Option Addr} {ad:Addr} {xs:List α}
theorem Qs (h:d.C W (some ad) n xs) (hn:0 < n) (hs:0 < d.sz):W.cell? ad ≠ none:=by
 obtain ⟨ad',he,hc⟩:=h.2.2 hn
 injection he with he
 subst he
 obtain ⟨c,hcl,_,hcell⟩:=hc 0 _ (List.getElem?_eq_getElem (by rw [h.1]; exact hn))
 have h1:=hcell 0 _ (List.getElem?_eq_getElem (by omega))
 rw [Nat.zero_mul,Nat.zero_add,Addr.add_zero'] at h1
 rw [h1]
 exact Option.some_ne_none _
theorem yN (h:d.C W (some ad) n xs) (hn:0 < n) (hs:0 < d.sz):ad.block < W.heap.size:=by
 cases hc:W.cell? ad with
 | none => exact absurd hc (Qs h hn hs)
 | some v => exact World.block_lt_of_cell? W ad hc
end
end Kd
end Go.Proofs.YtnkkgofpifhoeaaW.PrintWords
end
