/- What the laws of a pair are proved with: links and pairs in memory, what their methods do, what a pair keeps to (part 2). -/
import Derived.Test.YtnkkgofpifhoeaaPG01
import Derived.Below
import Derived.Deep.Draws
import Derived.Deep.AppendLies
import Derived.Maps.AppendAt
import Derived.OwnWalk
import Derived.Laws.BytesArg
import Derived.Laws.MakeOwn
import Derived.Laws.OwnMore
import Derived.Deep.OwnRows
import Derived.Tactics
import Derived.Lib.ConvBytes
import Derived.Laws.Slices
import Derived.WalkKit
import Derived.KernelRfl
import Derived.RowKit3
import Derived.Deep.LoopGhost
import Derived.Deep.QuietTactic
import Derived.BigQuiet
import Derived.WideLaws
import Derived.Deep.DeepCutAuto
import Derived.Deep.CutBlock
import Derived.Deep.RegionHeld3
import Derived.Laws.Rows
import Derived.Lib.AppendStr
import Derived.ArgAppend
import Derived.Laws.IdiomCopy
import Derived.RowKit
set_option linter.unusedSimpArgs false
set_option linter.unusedVariables false
set_option maxRecDepth 100000
set_option maxHeartbeats 16000000
namespace Go.Proofs.Ytnkkgofpifhoeaa
theorem oN {p:Prop} (h:p:=by
 obtain ⟨v1,w1,hr,hown,hg,hat⟩:=hrun
 refine wpList_plain hgd fun K hK => ?_
 unfold Oper.wp execOp
 simp only [ho,resolve,invoke,builtin,Sem.run_bind,Sem.run_pure,Result.andThen_ok,List.map_toArray,List.map_cons,List.map_nil,hs,hx,hr]
 refine hK _ _ (h v1 w1 hown (HB.grown hg hbase (own_base HO)) hg ?_)
 rcases hat with hat | hat
 ·exact .inl hat
 ·exact .inr ⟨_,hat,Nat.le_refl _⟩):p:=h
theorem oO {p:Prop} (h:p:=by
 refine ⟨by rw [List.length_take,h.1]; omega,by have:=h.2.1; omega,fun hp => ?_⟩
 obtain ⟨ad,e,hc⟩:=h.2.2 (by omega)
 refine ⟨ad,e,fun j hj => ?_⟩
 rw [hc j (by omega)]
 simp [List.getD_eq_getElem?_getD,hj]):p:=h
theorem Z25 {p:Prop} (h:p:=by
 refine ⟨by rw [List.length_drop,h.1],by have:=h.2.1; omega,fun hp => ?_⟩
 obtain ⟨ad,rfl,hcell⟩:=h.2.2 (by omega)
 rw [if_neg (by omega)]
 refine ⟨ad.add i,rfl,fun j hj => ?_⟩
 have ha:(ad.add i).add j = ad.add (i + j):=by
  unfold Addr.add
  by_cases h1:i = 0 <;> by_cases h2:j = 0 <;> simp [h1,h2,Nat.add_assoc]
 rw [ha,hcell (i + j) (by omega)]
 simp [List.getD_eq_getElem?_getD,List.getElem?_drop]):p:=h
theorem oP {p:Prop} (h:p:=by
 have hel:P.elem t = e:=by simp [Program.elem,ht]
 have hu:P.underlying t = some (.slice (P.elem t)):=by rw [hel]; exact ht
 rw [run_slice_l W t A n c hu kl (m:Int) (Int.natCast_nonneg _) (by omega),hel]
 simp [sizeOf,typeInfo,hi,hsz,sliced,Result.andThen]):p:=h
theorem oQ {p:Prop} (h:p:=by
 refine h v1 w1 hown ((HB.alloc hbase _).grown hg (by simp; omega) (own_base HO)) (World.grownBy.trans (World.grownBy_alloc W _ _) hg) ?_
 rcases hat with hat | hat
 ·exact .inl hat
 ·exact .inr ⟨_,hat,by simp⟩):p:=h
theorem oU {p:Prop} (h:p:=by
 have hne:∀ k,some k ≠ v.ownBlock → k < W.heap.size → some k ≠ v1.ownBlock:=by
  intro k hk hlt
  rcases hat with hat | ⟨b,hb,hle⟩
  ·rw [hat]; exact hk
  ·rw [hb]
   intro he
   injection he with he
   omega
 have step:∀ {q:α} {c:List Value} {o:Nat → Prop},d.M W base o q c → (∀ k,o k → ok k ∧ some k ≠ v.ownBlock) → d.M w1 base (fun k => ok k ∧ some k ≠ v1.ownBlock) q c:=by
  intro q c o hq ho
  have h1:=d.EZ (w1:=w1) (fun k hk => hg.block k hk.2.2.1 (ho k hk.1).2) (d.DL hq)
  exact d.CX (fun k hk => ⟨(ho k hk.1).1,hne k (ho k hk.1).2 hk.2.2.1⟩) h1
 refine ⟨fun k hk => ?_,inner ++ cs,by rw [List.length_append,List.length_singleton]; exact hown,?_⟩
 ·rcases hat with hat | ⟨b,hb,hle⟩
  ·exact h0 k (hat ▸ hk)
  ·rw [hb] at hk
   injection hk with hk
   exact hfresh k (by omega)
 ·exact (hr.Fp (fun _ _ hq => step hq (fun _ hk => hk))).snoc (step hp GN) (d.Gu (d.Dc hp))):p:=h
end Go.Proofs.Ytnkkgofpifhoeaa
section
namespace Go.Proofs.YtnkkgofpifhoeaaW.PrintWords
open Go.RowKit
structure D5 (p:Prop):Prop where mk :: (out:p)
def rd (xs:List Int) (i:Int):Int:=xs.getD i.toNat 0
def nums (k:IntKind) (xs:List Int):List Value:=xs.map fun x => .int k x
theorem Dp {w W:World} (h:Below w.heap.size w W) (o:Obj):Below w.heap.size w (W.alloc o):=h.alloc h.size o
theorem BH {B:Nat} {w W:World} (h:Below B w W) (n:Nat):Below B w (W.drewN n):=⟨h.os,h.tape,h.output,h.size,h.block⟩
theorem KJ {w w1:World} (h:Below w.heap.size w w1) {a:Addr} {v:Value} (hc:w.cell? a = some v):w1.cell? a = some v:=(h.cell (World.block_lt_of_cell? w a hc)).trans hc
theorem add_plain (g j:Nat):(⟨g,0,none⟩:Addr).add j = ⟨g,j,none⟩:=by unfold Addr.add; split <;> simp_all
def DR (w:World) (k:IntKind) (A:Option Addr) (n:Nat) (xs:List Int):Prop :=
 xs.length = n ∧ n ≤ 9223372036854775807 ∧ (0 < n → ∃ ad,A = some ad ∧ ∀ j,j < n → w.cell? (ad.add j) = some (.int k (xs.getD j 0)))
theorem DR.at_ {w:World} {k:IntKind} {A:Option Addr} {n:Nat} {xs:List Int} (h:DR w k A n xs) (i:Int) (h0:0 ≤ i) (h1:i < n):∃ ad,A = some ad ∧ w.cell? (ad.add i.toNat) = some (.int k (rd xs i)):=by
 obtain ⟨ad,e,hc⟩:=h.2.2 (by omega)
 exact ⟨ad,e,hc _ (by omega)⟩
theorem Vh (W:World) (base:Nat) (e:TypeId) (size:Nat):W.ownsRow base e size (.slice none 0 0) 0 []:=⟨by simp,.inl ⟨rfl,rfl⟩⟩
theorem own_base {w:World} {base:Nat} {e:TypeId} {size n:Nat} {v:Value} {xs:List Value} (h:w.ownsRow base e size v n xs) (k:Nat) (hk:v.ownBlock = some k):base ≤ k:=by
 rcases h.2 with ⟨rfl,_⟩ | ⟨g,cap,cur,rfl,hb,_⟩
 ·simp [Value.ownBlock] at hk
 ·have:g = k:=by simpa [Value.ownBlock] using hk
  omega
theorem TC {w:World} {base:Nat} {e:TypeId} {size n:Nat} {v:Value} {xs:List Value} (h:w.ownsRow base e size v n xs) (k:Nat) (hk:v.ownBlock = some k):k < w.heap.size:=by
 rcases h.2 with ⟨rfl,_⟩ | ⟨g,cap,cur,rfl,hb,hh,_⟩
 ·simp [Value.ownBlock] at hk
 ·have:g = k:=by simpa [Value.ownBlock] using hk
  subst this
  exact (Array.getElem?_eq_some_iff.1 hh).1
section
variable {P:Program} {ops:Array Oper} {rest:List Oper} {o:Oper} {a:Act} {Q:Exit → Act → World → Prop}
theorem Qy {w0 W:World} (base:Nat) (hgd:o.guard = none) (s x:Operand) (t e:TypeId) (k:IntKind) (bytes:Nat)
  (ho:o.op = .call { callee:=.builtin .append,args:=#[s,x],argTypes:=#[t,t] })
  (ht:P.underlying t = some (.slice e)) (hinfo:(P.info? e).map (fun i => (i.zero,i.size,i.bytes)) = some (some (.int k 0),1,bytes)) (hb0:0 < bytes)
  (v:Value) (xs ys:List Int) (A:Option Addr) (m c:Nat) (hs:a.eval s = v) (hx:a.eval x = .slice A m c)
  (HO:W.ownsRow base e 1 v xs.length (nums k xs)) (HR:DR W k A m ys) (HB:Below base w0 W) (hbase:base ≤ W.heap.size) (hl:(xs.length + m) * bytes ≤ 140737488355328)
  (h:∀ v1 w1,w1.ownsRow base e 1 v1 (xs ++ ys).length (nums k (xs ++ ys)) → Below base w0 w1 → W.grownBy w1 v.ownBlock → (v1.ownBlock = v.ownBlock ∨ ∃ b,v1.ownBlock = some b ∧ W.heap.size ≤ b) → wpList P ops Q rest (a.put o.dst v1) w1) :
  wpList P ops Q (o :: rest) a W:=by
 obtain ⟨i0,hi,hzz⟩:=Option.map_eq_some_iff.1 hinfo
 simp only [Prod.mk.injEq] at hzz
 obtain ⟨hz0,hz1,hz2⟩:=hzz
 have hm:ys.length = m:=HR.1
 have hlen:xs.length + m ≤ 140737488355328:=Nat.le_trans (Nat.le_mul_of_pos_right _ hb0) hl
 have hrun:∃ v1 w1,(Builtin.append_ #[t,t] o.type #[v,.slice A m c]).run P W = .ok v1 w1 ∧ w1.ownsRow base e 1 v1 (xs ++ ys).length (nums k (xs ++ ys)) ∧ W.grownBy w1 v.ownBlock ∧ (v1.ownBlock = v.ownBlock ∨ v1.ownBlock = some W.heap.size):=by
  rcases A with _ | ad
  ·have h0:m = 0:=by
    rcases Nat.eq_zero_or_pos m with h0 | h0
    ·exact h0
    ·obtain ⟨ad,h,_⟩:=HR.2.2 h0
     cases h
   subst h0
   obtain rfl:ys = []:=List.eq_nil_of_length_eq_zero hm
   refine ⟨v,W,?_,by simpa using HO,World.grownBy.refl W _,.inl rfl⟩
   rcases HO.2 with ⟨rfl,hn⟩ | ⟨g,cap,cur,rfl,_,_,hnc,_⟩
   ·simp [Builtin.append_,run_underlying ht,sizeOf,typeInfo,hi,Builtin.lenOf,Builtin.firstCells]
   ·simp [Builtin.append_,run_underlying ht,sizeOf,typeInfo,hi,Builtin.lenOf,Builtin.firstCells,hnc,storeCells]
  ·have hcells:∀ j u,(nums k ys)[j]? = some u → W.cell? (ad.add j) = some u:=by
    intro j u hu
    have hj:j < ys.length:=by
     rcases Nat.lt_or_ge j ys.length with h | h
     ·exact h
     ·simp [nums,List.getElem?_eq_none h] at hu
    obtain ⟨ad',h',hc⟩:=HR.2.2 (by omega)
    injection h' with h'
    subst h'
    have:=hc j (by omega)
    simp [nums,List.getElem?_eq_getElem hj] at hu
    subst hu
    rw [this]
    simp [List.getD_eq_getElem?_getD,List.getElem?_eq_getElem hj]
   obtain ⟨v1,w1,hr,h2,h3,_,h5⟩:=run_append_own_at (P:=P) W base t o.type e i0 (.int k 0) 1 bytes ht hi hz0 hz1 hz2 rfl (by omega) v xs.length (nums k xs) HO ad m c (nums k ys) (by simp [nums,hm]) hcells
    (by intro u hu; simp only [nums,List.mem_map] at hu; obtain ⟨q,_,rfl⟩:=hu; rfl) (by simp only [maxLen]; omega) hl hbase
   exact ⟨v1,w1,hr,by simpa [nums,hm] using h2,h3,h5⟩
 exact Ytnkkgofpifhoeaa.oN
end
theorem DR.P8 {w:World} {k:IntKind} {A:Option Addr} {n:Nat} {xs:List Int} (h:DR w k A n xs) (i:Nat) (hi:i ≤ n):DR w k A i (xs.take i):=by
 exact Ytnkkgofpifhoeaa.oO
theorem DR.TD {w:World} {k:IntKind} {A:Option Addr} {n c:Nat} {xs:List Int} (h:DR w k A n xs) (i:Nat) (hi:i ≤ n) (hc:n ≤ c):DR w k (if c = i then A else A.map (·.add i)) (n - i) (xs.drop i):=by
 exact Ytnkkgofpifhoeaa.Z25
theorem ZC {P:Program} (t e:TypeId) (kl:IntKind) {i:TypeInfo} (ht:P.underlying t = some (.slice e)) (hi:P.info? e = some i) (hsz:i.size = 1) (A:Option Addr) (n c m:Nat) (hm:m ≤ n) :
  ∃ A':Option Addr,(∀ W:World,(Instr.slice t (.slice A n c) (some (.int kl (m:Int))) none none).run P W = .ok (.slice A' (n - m) (c - m)) W) ∧
   ∀ (w:World) (k:IntKind) (xs:List Int),n ≤ c → DR w k A n xs → DR w k A' (n - m) (xs.drop m):=by
 refine ⟨if c = m then A else A.map (·.add m),fun W => ?_,fun w k xs hc h => h.TD m hm hc⟩
 exact Ytnkkgofpifhoeaa.oP
def EH {α:Type} (R:α → List Value → Prop) (size:Nat) (ps:List α) (cs:List Value):Prop :=
 cs.length = ps.length * size ∧ ∀ j p,ps[j]? = some p → R p ((cs.drop (j * size)).take size)
theorem EH.none {α:Type} (R:α → List Value → Prop) (size:Nat):EH R size [] []:=⟨by simp,fun j p h => by simp at h⟩
theorem EH.snoc {α:Type} {R:α → List Value → Prop} {size:Nat} {ps:List α} {cs c:List Value} {p:α} (h:EH R size ps cs) (hp:R p c) (hc:c.length = size):EH R size (ps ++ [p]) (cs ++ c):=by
 refine ⟨by rw [List.length_append,h.1,hc,List.length_append,List.length_singleton,Nat.add_mul,Nat.one_mul],fun j q hq => ?_⟩
 rcases Nat.lt_or_ge j ps.length with hj | hj
 ·rw [List.getElem?_append_left hj] at hq
  have h1:j * size + size ≤ cs.length:=by rw [h.1,← Nat.succ_mul]; exact Nat.mul_le_mul_right _ hj
  have h2:=h.2 j q hq
  rw [List.drop_append_of_le_length (by omega),List.take_append_of_le_length (by rw [List.length_drop]; omega)]
  exact h2
 ·have hj':j = ps.length:=by
   have:=(List.getElem?_eq_some_iff.1 hq).1
   rw [List.length_append,List.length_singleton] at this
   omega
  subst hj'
  have hq':p = q:=by simpa using hq
  subst hq'
  rw [← h.1,List.drop_left,← hc,List.take_length]
  exact hp
theorem EH.Fp {α:Type} {R R':α → List Value → Prop} {size:Nat} {ps:List α} {cs:List Value} (h:EH R size ps cs) (hR:∀ p c,R p c → R' p c):EH R' size ps cs:=⟨h.1,fun j p hj => hR _ _ (h.2 j p hj)⟩
def Cm {α:Type} (R:α → List Value → Prop) (size:Nat) (w:World) (A:Option Addr) (n:Nat) (ps:List α):Prop :=
 ps.length = n ∧ n ≤ 9223372036854775807 ∧ (0 < n → ∃ ad,A = some ad ∧ ∀ j p,ps[j]? = some p → ∃ c,c.length = size ∧ R p c ∧ ∀ i u,c[i]? = some u → w.cell? (ad.add (j * size + i)) = some u)
theorem Cm.Fp {α:Type} {R R':α → List Value → Prop} {size:Nat} {w w1:World} {A:Option Addr} {n:Nat} {ps:List α} (h:Cm R size w A n ps) (hb:Below w.heap.size w w1) (hR:∀ p c,R p c → R' p c):Cm R' size w1 A n ps :=
 ⟨h.1,h.2.1,fun hn => by
  obtain ⟨ad,e,hc⟩:=h.2.2 hn
  refine ⟨ad,e,fun j p hj => ?_⟩
  obtain ⟨c,hs,hr,hcell⟩:=hc j p hj
  exact ⟨c,hs,hR _ _ hr,fun i u hu => KJ hb (hcell i u hu)⟩⟩
theorem KL {α:Type} {R:α → List Value → Prop} {w:World} {base n size:Nat} {e:TypeId} {v:Value} {ps:List α} {cs:List Value} (h:w.ownsRow base e size v n cs) (hR:EH R size ps cs) (hn:ps.length = n) :
  ∃ A c,v = .slice A n c ∧ Cm R size w A n ps:=by
 rcases Nat.eq_zero_or_pos n with h0 | h0
 ·rcases h.2 with ⟨rfl,rfl⟩ | ⟨g,cap,cur,rfl,_⟩
  ·exact ⟨none,0,rfl,hn,by omega,fun hp => absurd hp (by omega)⟩
  ·exact ⟨_,cap,rfl,hn,by omega,fun hp => absurd hp (by omega)⟩
 ·obtain ⟨g,cap,rfl,_,_⟩:=h.form h0
  have hm:n ≤ 9223372036854775807:=by
   rcases h.2 with ⟨_,h1⟩ | ⟨g',cap',cur,he,_,_,h1,h2,_⟩
   ·omega
   ·simp only [maxLen] at h2
    omega
  refine ⟨_,cap,rfl,hn,hm,fun _ => ⟨_,rfl,fun j p hj => ⟨(cs.drop (j * size)).take size,?_,hR.2 j p hj,fun i u hu => ?_⟩⟩⟩
  ·have hjl:=(List.getElem?_eq_some_iff.1 hj).1
   have h1:j * size + size ≤ cs.length:=by rw [hR.1,← Nat.succ_mul]; exact Nat.mul_le_mul_right _ hjl
   rw [List.length_take,List.length_drop]
   omega
  ·refine h.cells (g:=g) rfl _ u ?_
   rw [List.getElem?_take] at hu
   split at hu
   ·rw [List.getElem?_drop] at hu
    exact hu
   ·cases hu
section
variable {P:Program} {ops:Array Oper} {rest:List Oper} {o:Oper} {a:Act} {Q:Exit → Act → World → Prop}
theorem IK {w0 W:World} (base:Nat) (hgd:o.guard = none) (s x:Operand) (t e:TypeId) (z:Value) (size bytes:Nat)
  (ho:o.op = .call { callee:=.builtin .append,args:=#[s,x],argTypes:=#[t,t] })
  (ht:P.underlying t = some (.slice e)) (hinfo:(P.info? e).map (fun i => (i.zero,i.size,i.bytes)) = some (some z,size,bytes)) (hz:z.cells.size = size) (hs0:0 < size) (hb0:0 < bytes)
  (v:Value) (n:Nat) (xs ys:List Value) (hs:a.eval s = v) (hx:a.eval x = .slice (some ⟨W.heap.size,0,none⟩) 1 1) (hys:ys.length = size) (h1:∀ u ∈ ys,u.oneCell' = true)
  (HO:W.ownsRow base e size v n xs) (HB:Below base w0 W) (hbase:base ≤ W.heap.size) (hl:(n + 1) * bytes ≤ 140737488355328)
  (h:∀ v1 w1,w1.ownsRow base e size v1 (n + 1) (xs ++ ys) → Below base w0 w1 → W.grownBy w1 v.ownBlock → (v1.ownBlock = v.ownBlock ∨ ∃ b,v1.ownBlock = some b ∧ W.heap.size ≤ b) → wpList P ops Q rest (a.put o.dst v1) w1) :
  wpList P ops Q (o :: rest) a (W.alloc (.cells ys.toArray e)):=by
 obtain ⟨i0,hi,hzz⟩:=Option.map_eq_some_iff.1 hinfo
 simp only [Prod.mk.injEq] at hzz
 obtain ⟨hz0,hz1,hz2⟩:=hzz
 have hlen:n + 1 ≤ 140737488355328:=Nat.le_trans (Nat.le_mul_of_pos_right _ hb0) hl
 refine wpList_append_own_at (W.alloc (.cells ys.toArray e)) hgd s x t ho base e i0 z size bytes ht hi hz0 hz1 hz2 hz hs0 v n xs hs (HO.alloc _) ⟨W.heap.size,0,none⟩ 1 1 ys hx (by rw [hys]; simp)
  (by simpa using World.news_of_block (cs:=ys.toArray) (t:=e) (fr:=(0,0)) (heap_alloc_new W (.cells ys.toArray e))) h1 (by simp only [maxLen]; omega) hl (by simp; omega) ?_
 intro v1 w1 hown hg _ hat
 exact Ytnkkgofpifhoeaa.oQ
end
theorem P9 {w:World} {g:Nat} {t:TypeId} {cs:Array Value} (h:w.heap[g]? = some (.cells cs t (0,0))) (i:Nat) (u:Value):(w.setCell ⟨g,i,none⟩ u).heap[g]? = some (.cells (cs.setIfInBounds i u) t (0,0)):=by
 simp [World.setCell,Array.getElem?_modify,h]
theorem AU {w:World} {g:Nat} {o:Obj} (h:w.heap[g]? = some o):g < w.heap.size:=(Array.getElem?_eq_some_iff.1 h).1
theorem AA {w:World} {g:Nat} {t:TypeId} {cs:Array Value} (h:w.heap[g]? = some (.cells cs t (0,0))) (i:Nat):w.cell? ⟨g,i,none⟩ = cs[i]?:=cell_of_row w g i cs t (0,0) h
theorem AB {w:World} {g:Nat} {t:TypeId} {cs:Array Value} (h:w.heap[g]? = some (.cells cs t (0,0))) (i:Nat):w.frozen? ⟨g,i,none⟩ = false:=by simp [World.frozen?,h]
def Jb (w w':World) (g:Nat) (row:Option Nat):Prop:=w.heap.size ≤ w'.heap.size ∧ ∀ i,i < w.heap.size → i ≠ g → some i ≠ row → w'.heap[i]? = w.heap[i]?
theorem Jb.trans {w w1 w2:World} {g:Nat} {row Xh:Option Nat} (h:Jb w w1 g row) (k:Jb w1 w2 g Xh) (hr:Xh = row ∨ ∃ b,Xh = some b ∧ w.heap.size ≤ b):Jb w w2 g row :=
 ⟨Nat.le_trans h.1 k.1,fun i hi hg hn => by
  refine (k.2 i (Nat.lt_of_lt_of_le hi h.1) hg ?_).trans (h.2 i hi hg hn)
  rcases hr with rfl | ⟨b,rfl,hb⟩
  ·exact hn
  ·intro e
   injection e with e
   omega⟩
section
variable {P:Program} {ops:Array Oper} {o:Oper} {a:Act} {Q:Exit → Act → World → Prop} {K:Act → World → Prop}
theorem Ib {w0 W:World} (base:Nat) (hw:Region.wanted o (yielded ops a.tmps) = true) (s x:Operand) (t e:TypeId) (z:Value) (size bytes:Nat)
  (ho:o.op = .call { callee:=.builtin .append,args:=#[s,x],argTypes:=#[t,t] })
  (ht:P.underlying t = some (.slice e)) (hinfo:(P.info? e).map (fun i => (i.zero,i.size,i.bytes)) = some (some z,size,bytes)) (hz:z.cells.size = size) (hs0:0 < size) (hb0:0 < bytes)
  (v:Value) (n:Nat) (xs ys:List Value) (hs:a.eval s = v) (hx:a.eval x = .slice (some ⟨W.heap.size,0,none⟩) 1 1) (hys:ys.length = size) (h1:∀ u ∈ ys,u.oneCell' = true)
  (HO:W.ownsRow base e size v n xs) (HB:Below base w0 W) (hbase:base ≤ W.heap.size) (hl:(n + 1) * bytes ≤ 140737488355328)
  (h:∀ v1 w1,w1.ownsRow base e size v1 (n + 1) (xs ++ ys) → Below base w0 w1 → W.grownBy w1 v.ownBlock → (v1.ownBlock = v.ownBlock ∨ ∃ b,v1.ownBlock = some b ∧ W.heap.size ≤ b) → K (a.put o.dst v1) w1) :
  if Region.wanted o (yielded ops a.tmps) = true then Oper.wp P o a (W.alloc (.cells ys.toArray e)) K Q else K (a.put o.dst undef) (W.alloc (.cells ys.toArray e)):=by
 obtain ⟨i0,hi,hzz⟩:=Option.map_eq_some_iff.1 hinfo
 simp only [Prod.mk.injEq] at hzz
 obtain ⟨hz0,hz1,hz2⟩:=hzz
 have hlen:n + 1 ≤ 140737488355328:=Nat.le_trans (Nat.le_mul_of_pos_right _ hb0) hl
 rw [if_pos hw]
 obtain ⟨v1,w1,hr,hown,hg,_,hat⟩:=run_append_own_at (P:=P) (W.alloc (.cells ys.toArray e)) base t o.type e i0 z size bytes ht hi hz0 hz1 hz2 hz hs0 v n xs (HO.alloc _) ⟨W.heap.size,0,none⟩ 1 1 ys (by rw [hys]; simp)
  (by simpa using World.news_of_block (cs:=ys.toArray) (t:=e) (fr:=(0,0)) (heap_alloc_new W (.cells ys.toArray e))) h1 (by simp only [maxLen]; omega) hl (by simp; omega)
 unfold Oper.wp execOp
 simp only [ho,resolve,invoke,builtin,Sem.run_bind,Sem.run_pure,Result.andThen_ok,List.map_toArray,List.map_cons,List.map_nil,hs,hx,hr]
 exact Ytnkkgofpifhoeaa.oQ
end
theorem OM {w:World} {base base':Nat} {e:TypeId} {size n:Nat} {v:Value} {xs:List Value} (h:w.ownsRow base e size v n xs) (hb:base' ≤ base):w.ownsRow base' e size v n xs:=by
 obtain ⟨h1,h2⟩:=h
 refine ⟨h1,?_⟩
 rcases h2 with h2 | ⟨g,cap,cur,rfl,hg,r⟩
 ·exact .inl h2
 ·exact .inr ⟨g,cap,cur,rfl,Nat.le_trans hb hg,r⟩
section
variable {α:Type} {enc:α → Value} {d:α}
def encs (enc:α → Value) (xs:List α):List Value:=xs.map enc
def je (d:α) (xs:List α) (i:Int):α:=xs.getD i.toNat d
theorem JH (xs:List α):(encs enc xs).length = xs.length:=by simp [encs]
theorem TE (xs:List α) (j:Nat) (h:j < xs.length):(encs enc xs)[j]? = some (enc (xs.getD j d)):=by
 simp [encs,List.getElem?_eq_getElem h,List.getD_eq_getElem?_getD]
def CV (enc:α → Value) (d:α) (w:World) (A:Option Addr) (n:Nat) (xs:List α):Prop :=
 xs.length = n ∧ n ≤ 9223372036854775807 ∧ (0 < n → ∃ ad,A = some ad ∧ ∀ j,j < n → w.cell? (ad.add j) = some (enc (xs.getD j d)))
theorem CV.at_ {w:World} {A:Option Addr} {n:Nat} {xs:List α} (h:CV enc d w A n xs) (i:Int) (h0:0 ≤ i) (h1:i < n):∃ ad,A = some ad ∧ w.cell? (ad.add i.toNat) = some (enc (je d xs i)):=by
 obtain ⟨ad,e,hc⟩:=h.2.2 (by omega)
 exact ⟨ad,e,hc _ (by omega)⟩
theorem CV.P8 {w:World} {A:Option Addr} {n:Nat} {xs:List α} (h:CV enc d w A n xs) (i:Nat) (hi:i ≤ n):CV enc d w A i (xs.take i):=by
 exact Ytnkkgofpifhoeaa.oO
theorem CV.TD {w:World} {A:Option Addr} {n c:Nat} {xs:List α} (h:CV enc d w A n xs) (i:Nat) (hi:i ≤ n) (hc:n ≤ c):CV enc d w (if c = i then A else A.map (·.add i)) (n - i) (xs.drop i):=by
 exact Ytnkkgofpifhoeaa.Z25
theorem La {P:Program} (enc:α → Value) (d:α) (t e:TypeId) (kl:IntKind) {i:TypeInfo} (ht:P.underlying t = some (.slice e)) (hi:P.info? e = some i) (hsz:i.size = 1) (A:Option Addr) (n c m:Nat) (hm:m ≤ n) :
  ∃ A':Option Addr,(∀ W:World,(Instr.slice t (.slice A n c) (some (.int kl (m:Int))) none none).run P W = .ok (.slice A' (n - m) (c - m)) W) ∧
   ∀ (w:World) (xs:List α),n ≤ c → CV enc d w A n xs → CV enc d w A' (n - m) (xs.drop m):=by
 refine ⟨if c = m then A else A.map (·.add m),fun W => ?_,fun w xs hc h => h.TD m hm hc⟩
 exact Ytnkkgofpifhoeaa.oP
end
section
variable {α:Type} {P:Program} {ops:Array Oper} {rest:List Oper} {o:Oper} {a:Act} {Q:Exit → Act → World → Prop}
theorem Ht {w0 W:World} (enc:α → Value) (d:α) (base:Nat) (hgd:o.guard = none) (s x:Operand) (t e:TypeId) (z:Value) (bytes:Nat)
  (ho:o.op = .call { callee:=.builtin .append,args:=#[s,x],argTypes:=#[t,t] })
  (ht:P.underlying t = some (.slice e)) (hinfo:(P.info? e).map (fun i => (i.zero,i.size,i.bytes)) = some (some z,1,bytes)) (hz:z.cells.size = 1) (hb0:0 < bytes) (h1:∀ x:α,(enc x).oneCell' = true)
  (v:Value) (xs ys:List α) (A:Option Addr) (m c:Nat) (hs:a.eval s = v) (hx:a.eval x = .slice A m c)
  (HO:W.ownsRow base e 1 v xs.length (encs enc xs)) (HR:CV enc d W A m ys) (HB:Below base w0 W) (hbase:base ≤ W.heap.size) (hl:(xs.length + m) * bytes ≤ 140737488355328)
  (h:∀ v1 w1,w1.ownsRow base e 1 v1 (xs ++ ys).length (encs enc (xs ++ ys)) → Below base w0 w1 → W.grownBy w1 v.ownBlock → (v1.ownBlock = v.ownBlock ∨ ∃ b,v1.ownBlock = some b ∧ W.heap.size ≤ b) → wpList P ops Q rest (a.put o.dst v1) w1) :
  wpList P ops Q (o :: rest) a W:=by
 obtain ⟨i0,hi,hzz⟩:=Option.map_eq_some_iff.1 hinfo
 simp only [Prod.mk.injEq] at hzz
 obtain ⟨hz0,hz1,hz2⟩:=hzz
 have hm:ys.length = m:=HR.1
 have hlen:xs.length + m ≤ 140737488355328:=Nat.le_trans (Nat.le_mul_of_pos_right _ hb0) hl
 have hrun:∃ v1 w1,(Builtin.append_ #[t,t] o.type #[v,.slice A m c]).run P W = .ok v1 w1 ∧ w1.ownsRow base e 1 v1 (xs ++ ys).length (encs enc (xs ++ ys)) ∧ W.grownBy w1 v.ownBlock ∧ (v1.ownBlock = v.ownBlock ∨ v1.ownBlock = some W.heap.size):=by
  rcases A with _ | ad
  ·have h0:m = 0:=by
    rcases Nat.eq_zero_or_pos m with h0 | h0
    ·exact h0
    ·obtain ⟨ad,h,_⟩:=HR.2.2 h0
     cases h
   subst h0
   obtain rfl:ys = []:=List.eq_nil_of_length_eq_zero hm
   refine ⟨v,W,?_,by simpa using HO,World.grownBy.refl W _,.inl rfl⟩
   rcases HO.2 with ⟨rfl,hn⟩ | ⟨g,cap,cur,rfl,_,_,hnc,_⟩
   ·simp [Builtin.append_,run_underlying ht,sizeOf,typeInfo,hi,Builtin.lenOf,Builtin.firstCells]
   ·simp [Builtin.append_,run_underlying ht,sizeOf,typeInfo,hi,Builtin.lenOf,Builtin.firstCells,hnc,storeCells]
  ·have hcells:∀ j u,(encs enc ys)[j]? = some u → W.cell? (ad.add j) = some u:=by
    intro j u hu
    have hj:j < ys.length:=by
     rcases Nat.lt_or_ge j ys.length with h | h
     ·exact h
     ·simp [encs,List.getElem?_eq_none h] at hu
    obtain ⟨ad',h',hc⟩:=HR.2.2 (by omega)
    injection h' with h'
    subst h'
    rw [TE (d:=d) ys j hj] at hu
    rw [← hu]
    exact hc j (by omega)
   obtain ⟨v1,w1,hr,h2,h3,_,h5⟩:=run_append_own_at (P:=P) W base t o.type e i0 z 1 bytes ht hi hz0 hz1 hz2 hz (by omega) v xs.length (encs enc xs) HO ad m c (encs enc ys) (by simp [encs,hm]) hcells
    (by intro u hu; simp only [encs,List.mem_map] at hu; obtain ⟨q,_,rfl⟩:=hu; exact h1 q) (by simp only [maxLen]; omega) hl hbase
   exact ⟨v1,w1,hr,by simpa [encs,hm] using h2,h3,h5⟩
 exact Ytnkkgofpifhoeaa.oN
end
theorem Vj (w:World) (o:Obj):(w.alloc o).heap[w.heap.size]? = some o:=heap_alloc_new w o
theorem Xi {w:World} {base n m c size:Nat} {e:TypeId} {A:Option Addr} {xs:List Value} (h:w.ownsRow base e size (.slice A m c) n xs):m ≤ c:=by
 rcases h.2 with ⟨he,_⟩ | ⟨g,cap,cur,he,_,_,hnc,_⟩
 ·injection he with _ h2 h3
  omega
 ·injection he with _ h2 h3
  omega
def Fa {α:Type} (R:α → List Value → Prop) (e:TypeId) (size:Nat) (w:World) (base:Nat) (v:Value) (ps:List α):Prop :=
 ∃ inner,w.ownsRow base e size v ps.length inner ∧ EH R size ps inner
section
variable {α:Type} {R R':α → List Value → Prop} {e:TypeId} {size:Nat} {w w1:World} {base:Nat} {v:Value} {ps:List α}
theorem Fa.none_ (R:α → List Value → Prop) (e:TypeId) (size:Nat) (w:World) (base:Nat):Fa R e size w base (.slice none 0 0) []:=⟨[],Vh _ _ _ _,EH.none _ _⟩
theorem Fa.Fp (h:Fa R e size w base v ps) (hR:∀ p c,R p c → R' p c):Fa R' e size w base v ps:=by
 obtain ⟨inner,ho,hr⟩:=h
 exact ⟨inner,ho,hr.Fp hR⟩
theorem Fa.reads (h:Fa R e size w base v ps):∃ A c,v = .slice A ps.length c ∧ ps.length ≤ c ∧ Cm R size w A ps.length ps:=by
 obtain ⟨inner,ho,hr⟩:=h
 obtain ⟨A,c,rfl,hrow⟩:=KL ho hr rfl
 exact ⟨A,c,rfl,Xi ho,hrow⟩
end
theorem Cm.TF {α:Type} {R:α → List Value → Prop} {size:Nat} {w:World} {ad:Addr} {n:Nat} {ps:List α} (h:Cm R size w (some ad) n ps) :
  ∃ inner,EH R size ps inner ∧ ∀ j u,inner[j]? = some u → w.cell? (ad.add j) = some u:=by
 have key:∀ m,m ≤ ps.length → ∃ inner,EH R size (ps.take m) inner ∧ ∀ j u,inner[j]? = some u → w.cell? (ad.add j) = some u:=by
  intro m
  induction m with
  | zero => exact fun _ => ⟨[],EH.none _ _,fun j u hu => by simp at hu⟩
  | succ m ih =>
   intro hm
   obtain ⟨inner,hr,hc⟩:=ih (by omega)
   obtain ⟨ad',he,hcell⟩:=h.2.2 (by have:=h.1; omega)
   injection he with he
   subst he
   obtain ⟨c,hcl,hp,hcc⟩:=hcell m _ (List.getElem?_eq_getElem (show m < ps.length by omega))
   refine ⟨inner ++ c,?_,fun j u hu => ?_⟩
   ·rw [List.take_succ_eq_append_getElem (show m < ps.length by omega)]
    exact hr.snoc hp hcl
   ·have hil:inner.length = m * size:=by rw [hr.1,List.length_take,Nat.min_eq_left (by omega)]
    rcases Nat.lt_or_ge j inner.length with hj | hj
    ·rw [List.getElem?_append_left hj] at hu
     exact hc j u hu
    ·rw [List.getElem?_append_right hj] at hu
     have:=hcc (j - inner.length) u hu
     rwa [hil,Nat.add_sub_cancel' (by omega)] at this
 obtain ⟨inner,hr,hc⟩:=key ps.length (Nat.le_refl _)
 rw [List.take_length] at hr
 exact ⟨inner,hr,hc⟩
section
variable {α:Type} {P:Program}
theorem KN (enc:α → Value) (d:α) (t e:TypeId) (kl:IntKind) {i:TypeInfo} (ht:P.underlying t = some (.slice e)) (hi:P.info? e = some i) (hsz:i.size = 1) (A:Option Addr) (c:Nat) (xs:List α) (j:Int) (h0:0 ≤ j) (hm:j ≤ xs.length) (hc:xs.length ≤ c) :
  (∀ W:World,(Instr.slice t (.slice A xs.length c) none (some (.int kl j)) none).run P W = .ok (.slice A (xs.take j.toNat).length c) W) ∧
   (∀ w:World,CV enc d w A xs.length xs → CV enc d w A (xs.take j.toNat).length (xs.take j.toNat)) ∧ (xs.take j.toNat).length ≤ c:=by
 have hl:(xs.take j.toNat).length = j.toNat:=by rw [List.length_take]; omega
 refine ⟨fun W => ?_,fun w h => by rw [hl]; exact h.P8 j.toNat (by omega),by rw [hl]; omega⟩
 have hel:P.elem t = e:=by simp [Program.elem,ht]
 have hu:P.underlying t = some (.slice (P.elem t)):=by rw [hel]; exact ht
 have ha:(A.map fun x => x.add 0) = A:=by cases A <;> simp [Addr.add]
 rw [run_slice_h W t A xs.length c hu kl j h0 (by omega),hel,hl]
 simp [sizeOf,typeInfo,hi,hsz,sliced,Result.andThen,ha]
theorem D8 (enc:α → Value) (d:α) (t e:TypeId) (kl:IntKind) {i:TypeInfo} (ht:P.underlying t = some (.slice e)) (hi:P.info? e = some i) (hsz:i.size = 1) (A:Option Addr) (c:Nat) (xs:List α) (j:Int) (h0:0 ≤ j) (hm:j ≤ xs.length) (hc:xs.length ≤ c) :
  ∃ A':Option Addr,(∀ W:World,(Instr.slice t (.slice A xs.length c) (some (.int kl j)) none none).run P W = .ok (.slice A' (xs.drop j.toNat).length (c - j.toNat)) W) ∧
   (∀ w:World,CV enc d w A xs.length xs → CV enc d w A' (xs.drop j.toNat).length (xs.drop j.toNat)) ∧ (xs.drop j.toNat).length ≤ c - j.toNat:=by
 obtain ⟨m,rfl⟩:=Int.eq_ofNat_of_zero_le h0
 simp only [Int.toNat_natCast]
 have hmn:m ≤ xs.length:=by omega
 obtain ⟨A',h1,h2⟩:=La (P:=P) enc d t e kl ht hi hsz A xs.length c m hmn
 have hl:(xs.drop m).length = xs.length - m:=List.length_drop
 exact ⟨A',fun W => by rw [hl]; exact h1 W,fun w h => by rw [hl]; exact h2 w xs hc h,by rw [hl]; omega⟩
end
structure Kd (α:Type) where
 sz:Nat
 E:List Nat
 K:World → α → List Value → Prop
 M:World → Nat → (Nat → Prop) → α → List Value → Prop
 Gu:∀ {w x cs},K w x cs → cs.length = sz
 Gh:∀ {w x cs},K w x cs → ∀ u ∈ cs,u.oneCell' = true
 FP:∀ {w w1:World} {x cs},Below w.heap.size w w1 → K w x cs → K w1 x cs
 Dc:∀ {w base ok x cs},M w base ok x cs → K w x cs
 CX:∀ {w base ok ok' x cs},(∀ k,ok k → ok' k) → M w base ok x cs → M w base ok' x cs
 DL:∀ {w:World} {base ok x cs},M w base ok x cs → M w base (fun k => ok k ∧ base ≤ k ∧ k < w.heap.size ∧ ∃ q,q ∈ E ∧ ∃ cells,w.heap[k]? = some (.cells cells q (0,0))) x cs
 EZ:∀ {w w1:World} {base ok x cs},(∀ k,ok k → w1.heap[k]? = w.heap[k]?) → M w base ok x cs → M w1 base ok x cs
 FQ:∀ {w base base' ok x cs},base' ≤ base → M w base ok x cs → M w base' ok x cs
theorem TG {w w1:World} {base:Nat} {e:TypeId} {size n:Nat} {v:Value} {xs:List Value} (h:w.ownsRow base e size v n xs) (hm:∀ k,v.ownBlock = some k → w1.heap[k]? = w.heap[k]?):w1.ownsRow base e size v n xs:=by
 obtain ⟨h1,h2⟩:=h
 refine ⟨h1,?_⟩
 rcases h2 with h2 | ⟨g,cap,cur,rfl,hg,hh,r⟩
 ·exact .inl h2
 ·exact .inr ⟨g,cap,cur,rfl,hg,(hm g (by simp [Value.ownBlock])).trans hh,r⟩
theorem G7 {w:World} {base:Nat} {e:TypeId} {size n:Nat} {v:Value} {xs:List Value} (h:w.ownsRow base e size v n xs) (k:Nat) (hk:v.ownBlock = some k):∃ cells,w.heap[k]? = some (.cells cells e (0,0)):=by
 rcases h.2 with ⟨rfl,_⟩ | ⟨g,cap,cur,rfl,hg,hh,r⟩
 ·simp [Value.ownBlock] at hk
 ·have:g = k:=by simpa [Value.ownBlock] using hk
  subst this
  exact ⟨cur,hh⟩
namespace Kd
def C {α:Type} (d:Kd α) (w:World) (A:Option Addr) (n:Nat) (xs:List α):Prop:=Cm (d.K w) d.sz w A n xs
def R {α:Type} (d:Kd α) (e:Nat) (w:World) (base:Nat) (ok:Nat → Prop) (v:Value) (xs:List α):Prop :=
 (∀ k,v.ownBlock = some k → ok k) ∧ Fa (d.M w base (fun k => ok k ∧ some k ≠ v.ownBlock)) e d.sz w base v xs
section
variable {α:Type} {d:Kd α} {e:Nat} {w w1:World} {base:Nat} {ok ok':Nat → Prop} {v:Value} {xs:List α}
theorem BQ {A:Option Addr} {n:Nat} (h:d.C w A n xs) (hb:Below w.heap.size w w1):d.C w1 A n xs:=Cm.Fp h hb (fun _ _ hp => d.FP hb hp)
theorem Cc (d:Kd α) (e:Nat) (w:World) (base:Nat) (ok:Nat → Prop):d.R e w base ok (.slice none 0 0) []:=⟨fun k hk => by simp [Value.ownBlock] at hk,Fa.none_ _ _ _ _ _⟩
theorem Az (h:d.R e w base ok v xs) (hok:∀ k,ok k → ok' k):d.R e w base ok' v xs:=⟨fun k hk => hok k (h.1 k hk),h.2.Fp (fun _ _ hp => d.CX (fun k hk => ⟨hok k hk.1,hk.2⟩) hp)⟩
theorem CW (h:d.R e w base ok v xs):d.R e w base (fun k => ok k ∧ base ≤ k ∧ k < w.heap.size ∧ ∃ q,q ∈ e :: d.E ∧ ∃ cells,w.heap[k]? = some (.cells cells q (0,0))) v xs:=by
 obtain ⟨h0,inner,ho,hr⟩:=h
 refine ⟨fun k hk => ?_,inner,ho,hr.Fp (fun _ _ hp => d.CX (fun k hk => ?_) (d.DL hp))⟩
 ·obtain ⟨cells,hc⟩:=G7 ho k hk
  exact ⟨h0 k hk,own_base ho k hk,TC ho k hk,e,List.mem_cons_self,cells,hc⟩
 ·obtain ⟨⟨h1,h2⟩,h3,h4,q,hq,hc⟩:=hk
  exact ⟨⟨h1,h3,h4,q,List.mem_cons_of_mem _ hq,hc⟩,h2⟩
theorem TI (h:d.R e w base ok v xs) (hm:∀ k,ok k → w1.heap[k]? = w.heap[k]?):d.R e w1 base ok v xs:=by
 obtain ⟨h0,inner,ho,hr⟩:=h
 exact ⟨h0,inner,TG ho (fun k hk => hm k (h0 k hk)),hr.Fp (fun _ _ hp => d.EZ (fun k hk => hm k hk.1) hp)⟩
theorem G8 {base':Nat} (h:d.R e w base ok v xs) (hb:base' ≤ base):d.R e w base' ok v xs:=by
 obtain ⟨h0,inner,ho,hr⟩:=h
 exact ⟨h0,inner,OM ho hb,hr.Fp (fun _ _ hp => d.FQ hb hp)⟩
theorem Jn (h:d.R e w base ok v xs) (hm:∀ k,ok k → k < w.heap.size → w1.heap[k]? = w.heap[k]?):d.R e w1 base ok v xs :=
 Az (TI (CW h) (fun k hk => hm k hk.1 hk.2.2.1)) (fun _ hk => hk.1)
theorem TJ {x:α} {cs:List Value} (h:d.M w base ok x cs) (hm:∀ k,ok k → k < w.heap.size → w1.heap[k]? = w.heap[k]?):d.M w1 base ok x cs :=
 d.CX (fun _ hk => hk.1) (d.EZ (fun k hk => hm k hk.1 hk.2.2.1) (d.DL h))
theorem Eb (h:d.R e w base ok v xs) (hb:Below w.heap.size w w1):d.R e w1 base ok v xs:=Jn h (fun k _ hk => hb.block k hk)
theorem Vk {x:α} {cs:List Value} (h:d.M w base ok x cs) (hb:Below w.heap.size w w1):d.M w1 base ok x cs:=TJ h (fun k _ hk => hb.block k hk)
theorem QC (h:d.R e w base ok v xs) {g t:Nat} {cells:Array Value} (hb:w.heap[g]? = some (.cells cells t (0,0))) (ht:∀ q,q ∈ e :: d.E → q ≠ t):d.R e w base (fun k => ok k ∧ k ≠ g) v xs :=
 Az (CW h) (fun k hk => ⟨hk.1,by
  obtain ⟨_,_,_,q,hq,cells',hc⟩:=hk
  rintro rfl
  rw [hc] at hb
  injection hb with hb
  injection hb with _ hb
  exact ht q hq hb⟩)
theorem Ic (h:d.R e w base ok v xs):∃ A c,v = .slice A xs.length c ∧ xs.length ≤ c ∧ d.C w A xs.length xs:=by
 obtain ⟨A,c,he,hl,hr⟩:=Fa.reads h.2
 exact ⟨A,c,he,hl,hr.Fp (Below.refl _ _) (fun _ _ hp => d.Dc hp)⟩
theorem Am (h:d.R e w base ok v xs):∃ A c,v = .slice A xs.length c:=by
 obtain ⟨A,c,he,_⟩:=Ic h
 exact ⟨A,c,he⟩
theorem XH (h:d.R e w base ok v xs):∃ inner,w.ownsRow base e d.sz v xs.length inner:=by
 obtain ⟨_,inner,ho,_⟩:=h
 exact ⟨inner,ho⟩
end
def scalar {α:Type} (enc:α → Value) (h1:∀ x,(enc x).oneCell' = true):Kd α where
 sz:=1
 E:=[]
 K:=fun _ x cs => cs = [enc x]
 M:=fun _ _ _ x cs => cs = [enc x]
 Gu:=fun h => by rw [h]; rfl
 Gh:=fun h u hu => by
  rw [h] at hu
  rw [List.mem_singleton.1 hu]
  exact h1 _
 FP:=fun _ h => h
 Dc:=fun h => h
 CX:=fun _ h => h
 DL:=fun h => h
 EZ:=fun _ h => h
 FQ:=fun _ h => h
def int (k:IntKind):Kd Int:=scalar (Value.int k) (fun _ => rfl)
def bool:Kd Bool:=scalar Value.bool (fun _ => rfl)
def slice {α:Type} (e:Nat) (d:Kd α):Kd (List α) where
 sz:=1
 E:=e :: d.E
 K:=fun w xs cs => ∃ A c,cs = [.slice A xs.length c] ∧ xs.length ≤ c ∧ d.C w A xs.length xs
 M:=fun w base ok xs cs => ∃ v,cs = [v] ∧ d.R e w base ok v xs
 Gu:=by
  rintro w x cs ⟨A,c,rfl,_⟩
  rfl
 Gh:=by
  rintro w x cs ⟨A,c,rfl,_⟩ u hu
  rw [List.mem_singleton.1 hu]
  rfl
 FP:=by
  rintro w w1 x cs hb ⟨A,c,rfl,hl,hr⟩
  exact ⟨A,c,rfl,hl,BQ hr hb⟩
 Dc:=by
  rintro w base ok x cs ⟨v,rfl,h⟩
  obtain ⟨A,c,rfl,hl,hr⟩:=Ic h
  exact ⟨A,c,rfl,hl,hr⟩
 CX:=by
  rintro w base ok ok' x cs hok ⟨v,rfl,h⟩
  exact ⟨v,rfl,Az h hok⟩
 DL:=by
  rintro w base ok x cs ⟨v,rfl,h⟩
  exact ⟨v,rfl,CW h⟩
 EZ:=by
  rintro w w1 base ok x cs hm ⟨v,rfl,h⟩
  exact ⟨v,rfl,TI h hm⟩
 FQ:=by
  rintro w base base' ok x cs hb ⟨v,rfl,h⟩
  exact ⟨v,rfl,G8 h hb⟩
def pair {α β:Type} (a:Kd α) (b:Kd β):Kd (α × β) where
 sz:=a.sz + b.sz
 E:=a.E ++ b.E
 K:=fun w x cs => ∃ c0 c1,cs = c0 ++ c1 ∧ a.K w x.1 c0 ∧ b.K w x.2 c1
 M:=fun w base ok x cs => ∃ c0 c1,cs = c0 ++ c1 ∧ a.M w base ok x.1 c0 ∧ b.M w base ok x.2 c1
 Gu:=by
  rintro w x cs ⟨c0,c1,rfl,h0,h1⟩
  rw [List.length_append,a.Gu h0,b.Gu h1]
 Gh:=by
  rintro w x cs ⟨c0,c1,rfl,h0,h1⟩ u hu
  rcases List.mem_append.1 hu with hu | hu
  ·exact a.Gh h0 u hu
  ·exact b.Gh h1 u hu
 FP:=by
  rintro w w1 x cs hb ⟨c0,c1,rfl,h0,h1⟩
  exact ⟨c0,c1,rfl,a.FP hb h0,b.FP hb h1⟩
 Dc:=by
  rintro w base ok x cs ⟨c0,c1,rfl,h0,h1⟩
  exact ⟨c0,c1,rfl,a.Dc h0,b.Dc h1⟩
 CX:=by
  rintro w base ok ok' x cs hok ⟨c0,c1,rfl,h0,h1⟩
  exact ⟨c0,c1,rfl,a.CX hok h0,b.CX hok h1⟩
 DL:=by
  rintro w base ok x cs ⟨c0,c1,rfl,h0,h1⟩
  refine ⟨c0,c1,rfl,a.CX ?_ (a.DL h0),b.CX ?_ (b.DL h1)⟩
  ·rintro k ⟨h2,h3,h4,q,hq,hc⟩
   exact ⟨h2,h3,h4,q,List.mem_append_left _ hq,hc⟩
  ·rintro k ⟨h2,h3,h4,q,hq,hc⟩
   exact ⟨h2,h3,h4,q,List.mem_append_right _ hq,hc⟩
 EZ:=by
  rintro w w1 base ok x cs hm ⟨c0,c1,rfl,h0,h1⟩
  exact ⟨c0,c1,rfl,a.EZ hm h0,b.EZ hm h1⟩
 FQ:=by
  rintro w base base' ok x cs hb ⟨c0,c1,rfl,h0,h1⟩
  exact ⟨c0,c1,rfl,a.FQ hb h0,b.FQ hb h1⟩
def x9 {α β:Type} (d:Kd α) (f:β → α):Kd β where
 sz:=d.sz
 E:=d.E
 K:=fun w x cs => d.K w (f x) cs
 M:=fun w base ok x cs => d.M w base ok (f x) cs
 Gu:=d.Gu
 Gh:=d.Gh
 FP:=d.FP
 Dc:=d.Dc
 CX:=d.CX
 DL:=d.DL
 EZ:=d.EZ
 FQ:=d.FQ
theorem Jo {α:Type} {d:Kd α} {e base:Nat} {ok DI:Nat → Prop} {W w1:World} {v v1:Value} {xs:List α} {p:α} {inner cs:List Value} (h0:∀ k,v.ownBlock = some k → ok k) (hr:EH (d.M W base (fun k => ok k ∧ some k ≠ v.ownBlock)) d.sz xs inner) (hp:d.M W base DI p cs) (GN:∀ k,DI k → ok k ∧ some k ≠ v.ownBlock) (hfresh:∀ k,W.heap.size ≤ k → ok k)
  (hown:w1.ownsRow base e d.sz v1 (xs.length + 1) (inner ++ cs)) (hg:W.grownBy w1 v.ownBlock) (hat:v1.ownBlock = v.ownBlock ∨ ∃ b,v1.ownBlock = some b ∧ W.heap.size ≤ b):d.R e w1 base ok v1 (xs ++ [p]):=by
 exact Ytnkkgofpifhoeaa.oU
section
variable {P:Program} {ops:Array Oper} {rest:List Oper} {o:Oper} {a:Act} {Q:Exit → Act → World → Prop} {α:Type}
theorem Fq (d:Kd α) {w0 W:World} (base:Nat) (hgd:o.guard = none) (s x:Operand) (t e:TypeId) (z:Value) (bytes:Nat)
  (ho:o.op = .call { callee:=.builtin .append,args:=#[s,x],argTypes:=#[t,t] })
  (ht:P.underlying t = some (.slice e)) (hinfo:(P.info? e).map (fun i => (i.zero,i.size,i.bytes)) = some (some z,d.sz,bytes)) (hz:z.cells.size = d.sz) (hs0:0 < d.sz) (hb0:0 < bytes)
  (v:Value) (xs:List α) (p:α) (cs:List Value) (ok DI:Nat → Prop) (hs:a.eval s = v) (hx:a.eval x = .slice (some ⟨W.heap.size,0,none⟩) 1 1) (hp:d.M W base DI p cs) (GN:∀ k,DI k → ok k ∧ some k ≠ v.ownBlock) (hfresh:∀ k,W.heap.size ≤ k → ok k)
  (HO:d.R e W base ok v xs) (HB:Below base w0 W) (hbase:base ≤ W.heap.size) (hl:(xs.length + 1) * bytes ≤ 140737488355328)
  (h:∀ v1 w1,d.R e w1 base ok v1 (xs ++ [p]) → Below base w0 w1 → W.grownBy w1 v.ownBlock → (v1.ownBlock = v.ownBlock ∨ ∃ b,v1.ownBlock = some b ∧ W.heap.size ≤ b) → wpList P ops Q rest (a.put o.dst v1) w1) :
  wpList P ops Q (o :: rest) a (W.alloc (.cells cs.toArray e)):=by
 obtain ⟨h0,inner,hown,hr⟩:=HO
 refine IK base hgd s x t e z d.sz bytes ho ht hinfo hz hs0 hb0 v xs.length inner cs hs hx (d.Gu (d.Dc hp)) (d.Gh (d.Dc hp)) hown HB hbase hl ?_
 intro v1 w1 hown1 hb1 hg1 FB
 exact h v1 w1 (Jo h0 hr hp GN hfresh hown1 hg1 FB) hb1 hg1 FB
end
section
variable {P:Program} {ops:Array Oper} {o:Oper} {a:Act} {Q:Exit → Act → World → Prop} {Kc:Act → World → Prop} {α:Type}
theorem KO (d:Kd α) {w0 W:World} (base:Nat) (hw:Region.wanted o (yielded ops a.tmps) = true) (s x:Operand) (t e:TypeId) (z:Value) (bytes:Nat)
  (ho:o.op = .call { callee:=.builtin .append,args:=#[s,x],argTypes:=#[t,t] })
  (ht:P.underlying t = some (.slice e)) (hinfo:(P.info? e).map (fun i => (i.zero,i.size,i.bytes)) = some (some z,d.sz,bytes)) (hz:z.cells.size = d.sz) (hs0:0 < d.sz) (hb0:0 < bytes)
  (v:Value) (xs:List α) (p:α) (cs:List Value) (ok DI:Nat → Prop) (hs:a.eval s = v) (hx:a.eval x = .slice (some ⟨W.heap.size,0,none⟩) 1 1) (hp:d.M W base DI p cs) (GN:∀ k,DI k → ok k ∧ some k ≠ v.ownBlock) (hfresh:∀ k,W.heap.size ≤ k → ok k)
  (HO:d.R e W base ok v xs) (HB:Below base w0 W) (hbase:base ≤ W.heap.size) (hl:(xs.length + 1) * bytes ≤ 140737488355328)
  (h:∀ v1 w1,d.R e w1 base ok v1 (xs ++ [p]) → Below base w0 w1 → W.grownBy w1 v.ownBlock → (v1.ownBlock = v.ownBlock ∨ ∃ b,v1.ownBlock = some b ∧ W.heap.size ≤ b) → Kc (a.put o.dst v1) w1) :
  if Region.wanted o (yielded ops a.tmps) = true then Oper.wp P o a (W.alloc (.cells cs.toArray e)) Kc Q else Kc (a.put o.dst undef) (W.alloc (.cells cs.toArray e)):=by
 obtain ⟨h0,inner,hown,hr⟩:=HO
 refine Ib base hw s x t e z d.sz bytes ho ht hinfo hz hs0 hb0 v xs.length inner cs hs hx (d.Gu (d.Dc hp)) (d.Gh (d.Dc hp)) hown HB hbase hl ?_
 intro v1 w1 hown1 hb1 hg1 FB
 exact h v1 w1 (Jo h0 hr hp GN hfresh hown1 hg1 FB) hb1 hg1 FB
end
theorem MW {α:Type} {enc:α → Value} (xs:List α):EH (fun (x:α) (cs:List Value) => cs = [enc x]) 1 xs (encs enc xs):=by
 refine ⟨by simp [encs],fun j p hj => ?_⟩
 obtain ⟨hl,hp⟩:=List.getElem?_eq_some_iff.1 hj
 have hl':j < (encs enc xs).length:=by rw [JH]; exact hl
 rw [Nat.mul_one,List.drop_eq_getElem_cons hl']
 simp [encs,hp]
theorem MX {α:Type} {enc:α → Value} {h1:∀ x,(enc x).oneCell' = true} {e:Nat} {w:World} {base:Nat} {ok:Nat → Prop} {v:Value} {xs:List α} (ho:w.ownsRow base e 1 v xs.length (encs enc xs)) (hok:∀ k,v.ownBlock = some k → ok k):(scalar enc h1).R e w base ok v xs:=⟨hok,encs enc xs,ho,MW xs⟩
theorem TK {α:Type} {enc:α → Value} {h1:∀ x,(enc x).oneCell' = true} {e:Nat} {w:World} {base:Nat} {ok:Nat → Prop} {v:Value} {xs:List α} (h:(scalar enc h1).R e w base ok v xs):w.ownsRow base e 1 v xs.length (encs enc xs):=by
 obtain ⟨_,inner,ho,hr⟩:=h
 have:inner = encs enc xs:=by
  apply List.ext_getElem?
  intro j
  rcases Nat.lt_or_ge j xs.length with hj | hj
  ·have h2:=hr.2 j _ (List.getElem?_eq_getElem hj)
   have hl:j < inner.length:=by have:=hr.1; simp [scalar] at this; omega
   have h3:(inner.drop (j * 1)).take 1 = [enc xs[j]]:=h2
   rw [Nat.mul_one,List.drop_eq_getElem_cons hl] at h3
   have h4:inner[j] = enc xs[j]:=by
    have h5:=congrArg List.head? h3
    rw [List.take_succ_cons] at h5
    exact Option.some.inj h5
   rw [List.getElem?_eq_getElem hl,h4]
   simp [encs,List.getElem?_eq_getElem hj]
  ·have h3:inner.length = xs.length:=by have:=hr.1; simp [scalar] at this; omega
   rw [List.getElem?_eq_none (by omega),List.getElem?_eq_none (by rw [JH]; omega)]
 rw [← this]
 exact ho
theorem FC {α:Type} {enc:α → Value} {d:α} {h1:∀ x,(enc x).oneCell' = true} {w:World} {A:Option Addr} {n:Nat} {xs:List α} (h:CV enc d w A n xs):(scalar enc h1).C w A n xs:=by
 refine ⟨h.1,h.2.1,fun hn => ?_⟩
 obtain ⟨ad,e,hc⟩:=h.2.2 hn
 refine ⟨ad,e,fun j p hj => ⟨[enc p],rfl,rfl,fun i u hu => ?_⟩⟩
 obtain ⟨hl,hp⟩:=List.getElem?_eq_some_iff.1 hj
 have h2:=hc j (by have:=h.1; omega)
 rw [List.getD_eq_getElem?_getD,hj] at h2
 cases i with
 | zero =>
  have:enc p = u:=by simpa using hu
  subst this
  simpa [scalar] using h2
 | succ i => simp at hu
theorem Dq {α:Type} {enc:α → Value} {d:α} {h1:∀ x,(enc x).oneCell' = true} {w:World} {A:Option Addr} {n:Nat} {xs:List α} (h:(scalar enc h1).C w A n xs):CV enc d w A n xs:=by
 refine ⟨h.1,h.2.1,fun hn => ?_⟩
 obtain ⟨ad,e,hc⟩:=h.2.2 hn
 refine ⟨ad,e,fun j hj => ?_⟩
 have hl:j < xs.length:=by have:=h.1; omega
 obtain ⟨c,_,hK,hcell⟩:=hc j _ (List.getElem?_eq_getElem hl)
 have hK':c = [enc xs[j]]:=hK
 subst hK'
 have:=hcell 0 _ rfl
 simpa [scalar,List.getD_eq_getElem?_getD,List.getElem?_eq_getElem hl] using this
end Kd
namespace Kd
section
variable {α β:Type} {d:Kd α} {d':Kd β} {e e':Nat} {w w1 W:World} {base b b':Nat} {ok ok' ZZ oku:Nat → Prop} {v u:Value} {xs:List α} {ys:List β}
theorem D9 {A:Option Addr} {n c:Nat} (h:d.R e w base ok (.slice A n c) xs):n = xs.length ∧ n ≤ c ∧ d.C w A xs.length xs:=by
 obtain ⟨A',c',he,hl,hr⟩:=Ic h
 injection he with h1 h2 h3
 subst h1
 exact ⟨h2,by omega,hr⟩
theorem OO (h:d.R e w base ok v xs) (hp:0 < xs.length):∃ g cap,v = .slice (some ⟨g,0,none⟩) xs.length cap ∧ base ≤ g ∧ g < w.heap.size ∧ ∃ cells,w.heap[g]? = some (.cells cells e (0,0)):=by
 obtain ⟨inner,ho⟩:=XH h
 obtain ⟨g,cap,he,hb,hl⟩:=ho.form hp
 obtain ⟨cells,hc⟩:=G7 ho g (by rw [he]; simp [Value.ownBlock])
 exact ⟨g,cap,he,hb,hl,cells,hc⟩
end
section
variable {w W:World} {A:Option Addr} {n:Nat}
theorem EI {k:IntKind} {xs:List Int} (h:(Kd.int k).C w A n xs) (i:Int) (h0:0 ≤ i) (h1:i < n):∃ ad,A = some ad ∧ w.cell? (ad.add i.toNat) = some (.int k (rd xs i)) :=
 CV.at_ (Dq (enc:=Value.int k) (d:=(0:Int)) (h1:=fun _ => rfl) h) i h0 h1
variable {α:Type} {enc:α → Value} {h1:∀ x,(enc x).oneCell' = true} {e base g cap:Nat} {ok:Nat → Prop} {xs:List α}
end
section
variable {P:Program} {ops:Array Oper} {rest:List Oper} {o:Oper} {a:Act} {Q:Exit → Act → World → Prop}
theorem Ko {W w1:World} {v:Value} (hgd:o.guard = none) (hrun:(execOp a.eval o).run P W = .ok (.value v) w1) (h:wpList P ops Q rest (a.put o.dst v) w1):wpList P ops Q (o :: rest) a W:=by
 refine wpList_plain hgd fun K hK => ?_
 unfold Oper.wp
 rw [hrun]
 exact hK _ _ h
variable {α:Type}
theorem Za (d:Kd α) {w0 W:World} (base e:Nat) (hgd:o.guard = none) {N:Tmp} (_hd:o.dst = some N) {xs:List α} {inner:List Value} {ok DI:Nat → Prop}
  (hrun:(execOp a.eval o).run P W = .ok (.value (.slice (some ⟨W.heap.size,0,none⟩) xs.length xs.length)) (W.alloc (.cells inner.toArray e)))
  (hrep:EH (d.M W base DI) d.sz xs inner) (hok:∀ k,DI k → ok k) (hfresh:ok W.heap.size) (HB:Below base w0 W) (hbase:base ≤ W.heap.size) (hm:xs.length ≤ 9223372036854775807)
  (h:∀ v1 w1,d.R e w1 base ok v1 xs → Below base w0 w1 → W.grownBy w1 none → (∃ b,v1.ownBlock = some b ∧ W.heap.size ≤ b) → wpList P ops Q rest (a.put o.dst v1) w1):wpList P ops Q (o :: rest) a W:=by
 refine Ko hgd hrun (h _ _ ⟨fun k hk => ?_,inner,?_,?_⟩ (HB.alloc hbase _) (World.grownBy_alloc W _ none) ⟨W.heap.size,by simp [Value.ownBlock],Nat.le_refl _⟩)
 ·have:W.heap.size = k:=by simpa [Value.ownBlock] using hk
  subst this
  exact hfresh
 ·have h2:=World.ownsRow_lit (base:=base) (e:=e) (size:=d.sz) W inner.toArray xs.length hbase (by simpa [maxLen] using hm) (by simpa using hrep.1)
  simpa using h2
 ·refine hrep.Fp (fun p c hp => d.CX (fun k hk => ⟨hok k hk.1,fun he => ?_⟩) (Vk (d.DL hp) (Dp (Below.refl _ _) _)))
  have h3:k = W.heap.size:=by simpa [Value.ownBlock] using he
  have:=hk.2.2.1
  omega
end
end Kd
def Fv (w:World) (base:Nat) (e:TypeId) (size:Nat) (v:Value) (n:Nat) (xs:List Value):Prop :=
 xs.length = n * size ∧
 ((n = 0 ∧ ∃ A,v = .slice A 0 0 ∧ ∀ a,A = some a → base ≤ a.block ∧ ∃ cur,w.heap[a.block]? = some (.cells cur e (0,0))) ∨
  ∃ g off cap cur,v = .slice (some ⟨g,off * size,none⟩) n cap ∧ base ≤ g ∧ w.heap[g]? = some (.cells cur e (0,0)) ∧ n ≤ cap ∧ off + cap ≤ maxLen ∧ cur.size = (off + cap) * size ∧ (cur.toList.drop (off * size)).take (n * size) = xs)
section
variable {w w1:World} {base n size:Nat} {e:TypeId} {v:Value} {xs:List Value}
theorem Jp (h:w.ownsRow base e size v n xs):Fv w base e size v n xs:=by
 obtain ⟨h1,h2⟩:=h
 refine ⟨h1,?_⟩
 rcases h2 with ⟨rfl,h0⟩ | ⟨g,cap,cur,rfl,hb,hh,hnc,hcm,hcs,ht⟩
 ·exact .inl ⟨h0,none,rfl,fun a ha => by cases ha⟩
 ·exact .inr ⟨g,0,cap,cur,by rw [Nat.zero_mul],hb,hh,hnc,by rw [Nat.zero_add]; exact hcm,by rw [Nat.zero_add]; exact hcs,by rw [Nat.zero_mul,List.drop_zero]; exact ht⟩
theorem TL (h:Fv w base e size v n xs) (hm:∀ k,v.ownBlock = some k → w1.heap[k]? = w.heap[k]?):Fv w1 base e size v n xs:=by
 obtain ⟨h1,h2⟩:=h
 refine ⟨h1,?_⟩
 rcases h2 with ⟨h0,A,rfl,hA⟩ | ⟨g,off,cap,cur,rfl,hg,hh,r⟩
 ·refine .inl ⟨h0,A,rfl,fun a ha => ?_⟩
  obtain ⟨hb,cur,hc⟩:=hA a ha
  subst ha
  exact ⟨hb,cur,(hm a.block (by simp [Value.ownBlock])).trans hc⟩
 ·exact .inr ⟨g,off,cap,cur,rfl,hg,(hm g (by simp [Value.ownBlock])).trans hh,r⟩
theorem Jc (h:Fv w base e size v n xs) (k:Nat) (hk:v.ownBlock = some k):base ≤ k ∧ ∃ cells,w.heap[k]? = some (.cells cells e (0,0)):=by
 rcases h.2 with ⟨_,A,rfl,hA⟩ | ⟨g,off,cap,cur,rfl,hg,hh,r⟩
 ·cases A with
  | none => simp [Value.ownBlock] at hk
  | some a =>
   have:a.block = k:=by simpa [Value.ownBlock] using hk
   subst this
   exact hA a rfl
 ·have:g = k:=by simpa [Value.ownBlock] using hk
  subst this
  exact ⟨hg,cur,hh⟩
theorem Zb (h:Fv w base e size v n xs) (k:Nat) (hk:v.ownBlock = some k):k < w.heap.size:=by
 obtain ⟨_,cells,hc⟩:=Jc h k hk
 exact (Array.getElem?_eq_some_iff.1 hc).1
theorem Vl {base':Nat} (h:Fv w base e size v n xs) (hb:base' ≤ base):Fv w base' e size v n xs:=by
 obtain ⟨h1,h2⟩:=h
 refine ⟨h1,?_⟩
 rcases h2 with ⟨h0,A,rfl,hA⟩ | ⟨g,off,cap,cur,rfl,hg,r⟩
 ·exact .inl ⟨h0,A,rfl,fun a ha => ⟨Nat.le_trans hb (hA a ha).1,(hA a ha).2⟩⟩
 ·exact .inr ⟨g,off,cap,cur,rfl,Nat.le_trans hb hg,r⟩
theorem QD (h:Fv w base e size v n xs):∃ A c,v = .slice A n c ∧ n ≤ c:=by
 rcases h.2 with ⟨h0,A,rfl,_⟩ | ⟨g,off,cap,cur,rfl,hg,hh,hnc,r⟩
 ·exact ⟨A,0,by rw [h0],by omega⟩
 ·exact ⟨_,cap,rfl,hnc⟩
theorem Zc (h:Fv w base e size v n xs):n ≤ 9223372036854775807:=by
 rcases h.2 with ⟨h0,_⟩ | ⟨g,off,cap,cur,rfl,hg,hh,hnc,hm,r⟩
 ·omega
 ·simp only [maxLen] at hm
  omega
theorem Lc (g o j:Nat):(⟨g,o,none⟩:Addr).add j = ⟨g,o + j,none⟩:=by unfold Addr.add; split <;> simp_all
theorem QE {A:Option Addr} {c:Nat} (h:Fv w base e size (.slice A n c) n xs) (hn:0 < n):∃ ad,A = some ad ∧ ∀ j u,xs[j]? = some u → w.cell? (ad.add j) = some u:=by
 rcases h.2 with ⟨h0,_⟩ | ⟨g,off,cap,cur,he,hg,hh,hnc,hm,hcs,ht⟩
 ·omega
 ·injection he with ha _ hc
  subst ha
  refine ⟨_,rfl,fun j u hu => ?_⟩
  rw [Lc,cell_of_row w g _ cur e (0,0) hh]
  rw [← ht,List.getElem?_take] at hu
  split at hu
  ·rw [List.getElem?_drop] at hu
   rw [← Array.getElem?_toList]
   exact hu
  ·cases hu
theorem jf {A:Option Addr} {c m:Nat} (h:Fv w base e size (.slice A n c) n xs) (hm:m ≤ n):Fv w base e size (.slice A m c) m (xs.take (m * size)):=by
 obtain ⟨h1,h2⟩:=h
 refine ⟨by rw [List.length_take,h1]; exact Nat.min_eq_left (Nat.mul_le_mul_right _ hm),?_⟩
 rcases h2 with ⟨h0,A',he,hA⟩ | ⟨g,off,cap,cur,he,hb,hh,hnc,hcm,hcs,ht⟩
 ·injection he with ha hb hc
  subst ha; subst hc
  exact .inl ⟨by omega,A,by rw [show m = 0 by omega],hA⟩
 ·injection he with ha _ hc
  subst ha; subst hc
  refine .inr ⟨g,off,c,cur,rfl,hb,hh,by omega,hcm,hcs,?_⟩
  rw [← ht,List.take_take,Nat.min_eq_left (Nat.mul_le_mul_right _ hm)]
theorem Xj {A:Option Addr} {c k:Nat} (h:Fv w base e size (.slice A n c) n xs) (hk:k ≤ n):Fv w base e size (.slice (if c = k then A else A.map (·.add (k * size))) (n - k) (c - k)) (n - k) (xs.drop (k * size)):=by
 obtain ⟨h1,h2⟩:=h
 refine ⟨by rw [List.length_drop,h1,Nat.sub_mul],?_⟩
 rcases h2 with ⟨h0,A',he,hA⟩ | ⟨g,off,cap,cur,he,hb,hh,hnc,hcm,hcs,ht⟩
 ·injection he with ha hb hc
  subst ha; subst hc
  have hk0:k = 0:=by omega
  subst hk0
  exact .inl ⟨by omega,A,by rw [if_pos rfl,h0],hA⟩
 ·injection he with ha _ hc
  subst ha; subst hc
  by_cases hck:c = k
  ·rw [if_pos hck]
   refine .inl ⟨by omega,some ⟨g,off * size,none⟩,?_,fun a ha => ?_⟩
   ·rw [show n - k = 0 by omega,show c - k = 0 by omega]
   ·injection ha with ha
    subst ha
    exact ⟨hb,cur,hh⟩
  ·rw [if_neg hck]
   refine .inr ⟨g,off + k,c - k,cur,?_,hb,hh,by omega,by omega,by rw [hcs]; congr 1; omega,?_⟩
   ·rw [Option.map_some,Lc,Nat.add_mul]
   ·rw [← ht,List.drop_take,List.drop_drop,Nat.add_mul,Nat.sub_mul]
theorem Ie {g:Nat}:∀ (vs:List Value) (o:Nat) {w:World} (k:Nat),k ≠ g → (w.setCells g o vs).heap[k]? = w.heap[k]?
 | [],_,_,_,_ => rfl
 | v :: r,o,w,k,hk => by
  rw [World.setCells,Ie r (o + 1) k hk]
  exact Below.heap_setCell w ⟨g,o,none⟩ v k hk
theorem IC (g:Nat):∀ (vs:List Value) (o:Nat) (w:World),(w.setCells g o vs).os = w.os ∧ (w.setCells g o vs).tape = w.tape ∧ (w.setCells g o vs).output = w.output ∧ (w.setCells g o vs).heap.size = w.heap.size
 | [],_,_ => ⟨rfl,rfl,rfl,rfl⟩
 | v :: r,o,w => by
  obtain ⟨h1,h2,h3,h4⟩:=IC g r (o + 1) (w.setCell ⟨g,o,none⟩ v)
  rw [World.setCells]
  exact ⟨h1,h2,h3,by rw [h4]; simp [World.setCell]⟩
theorem Ig {g:Nat} {e:TypeId}:∀ (vs:List Value) (o:Nat) (w:World) (cur:Array Value),w.heap[g]? = some (.cells cur e (0,0)) → o + vs.length ≤ cur.size →
  ∃ cur',(w.setCells g o vs).heap[g]? = some (.cells cur' e (0,0)) ∧ cur'.size = cur.size ∧ cur'.toList = cur.toList.take o ++ vs ++ cur.toList.drop (o + vs.length)
 | [],o,w,cur,h,_ => ⟨cur,h,rfl,by simp⟩
 | v :: r,o,w,cur,h,hl => by
  have h2:=P9 h o v
  simp only [List.length_cons] at hl
  obtain ⟨cur',h3,h4,h5⟩:=Ig r (o + 1) (w.setCell ⟨g,o,none⟩ v) _ h2 (by simp; omega)
  refine ⟨cur',h3,by rw [h4]; simp,?_⟩
  rw [h5,Array.toList_setIfInBounds]
  have ho:o < cur.toList.length:=by rw [Array.length_toList]; omega
  rw [List.take_set,List.drop_set_of_lt (by omega)]
  simp only [List.length_cons]
  rw [show o + 1 + r.length = o + (r.length + 1) by omega]
  congr 1
  rw [List.take_succ_eq_append_getElem ho,List.set_append_right _ _ (by rw [List.length_take]; omega)]
  have ho':o < cur.size:=by omega
  simp [Nat.min_eq_left (Nat.le_of_lt ho')]
end
section
variable {P:Program}
theorem TM (w:World) (base:Nat) (t ty e:TypeId) (i:TypeInfo) (z:Value) (size bytes:Nat) (ht:P.underlying t = some (.slice e)) (hi:P.info? e = some i) (hz:i.zero = some z)
  (hsize:i.size = size) (hby:i.bytes = bytes) (hzs:z.cells.size = size) (hsz:0 < size)
  (v:Value) (n:Nat) (xs:List Value) (hown:Fv w base e size v n xs)
  (a:Addr) (m c:Nat) (news:List Value) (hl:news.length = m * size) (hnews:∀ j u,news[j]? = some u → w.cell? (a.add j) = some u) (h1:∀ u ∈ news,u.oneCell' = true) (hm:0 < m)
  (h63:n + m ≤ maxLen) (hbytes:(n + m) * bytes ≤ 140737488355328) (hbase:base ≤ w.heap.size) :
  ∃ v' w',(Builtin.append_ #[t,t] ty #[v,.slice (some a) m c]).run P w = .ok v' w' ∧ Fv w' base e size v' (n + m) (xs ++ news) ∧ w.grownBy w' v.ownBlock ∧ (v'.ownBlock = v.ownBlock ∨ ∃ b,v'.ownBlock = some b ∧ w.heap.size ≤ b):=by
 have grows:∀ (b:Addr) (cap:Nat),cap < n + m → (∀ j u,xs[j]? = some u → w.cell? (b.add j) = some u) → v = .slice (some b) n cap →
   ∃ v' w',(Builtin.append_ #[t,t] ty #[v,.slice (some a) m c]).run P w = .ok v' w' ∧ Fv w' base e size v' (n + m) (xs ++ news) ∧ w.grownBy w' v.ownBlock ∧ (v'.ownBlock = v.ownBlock ∨ ∃ b,v'.ownBlock = some b ∧ w.heap.size ≤ b):=by
  intro b cap hcap hcells hv
  obtain ⟨v',w',hr,ho,hg⟩:=run_append_arg_grows (P:=P) (w:=w) t ty e i z size bytes ht hi hz hsize hby hzs hsz b n cap xs hown.1 hcells a m c news hl hnews hcap h63 hbytes
  refine ⟨v',w',by rw [hv]; exact hr,Vl (Jp ho) hbase,⟨hg.os,hg.tape,hg.output,hg.size,fun k hk _ => hg.block k hk (by simp)⟩,?_⟩
  obtain ⟨g',cap',he,hb,_⟩:=ho.form (by omega)
  exact .inr ⟨g',by rw [he]; simp [Value.ownBlock],hb⟩
 rcases hown.2 with ⟨h0,A,hv,hA⟩ | ⟨g,off,cap,cur,hv,hbg,hg,hnc,hcm,hcs,htake⟩
 ·cases A with
  | none =>
   subst h0
   have ho:w.ownsRow base e size v 0 xs:=⟨hown.1,.inl ⟨hv,rfl⟩⟩
   obtain ⟨v',w',hr,ho',hg,_,hat⟩:=run_append_own_at (P:=P) w base t ty e i z size bytes ht hi hz hsize hby hzs hsz v 0 xs ho a m c news hl hnews h1 h63 hbytes hbase
   refine ⟨v',w',hr,Jp ho',hg,?_⟩
   rcases hat with hat | hat
   ·exact .inl hat
   ·exact .inr ⟨_,hat,Nat.le_refl _⟩
  | some b =>
   have hx:xs = []:=List.eq_nil_of_length_eq_zero (by rw [hown.1,h0,Nat.zero_mul])
   exact grows b 0 (by omega) (fun j u hu => by rw [hx] at hu; simp at hu) (by rw [hv,h0])
 ·by_cases hroom:n + m ≤ cap
  ·have hfit:off * size + n * size + news.length ≤ cur.size:=by
    rw [hl,hcs,← Nat.add_mul,← Nat.add_mul]
    exact Nat.mul_le_mul_right _ (by omega)
   subst hsize
   have hr:=run_append_room_cells (P:=P) (w:=w) t ty e i ht hi g (off * i.size) n cap a m c news hl hnews h1 hroom
    (fun j hj => by rw [cell_of_row w g _ cur e (0,0) hg]; simp; omega) (fun j _ => AB hg _)
   obtain ⟨cur',h3,h4,h5⟩:=Ig news (off * i.size + n * i.size) w cur hg hfit
   obtain ⟨s1,s2,s3,s4⟩:=IC g news (off * i.size + n * i.size) w
   refine ⟨_,_,by rw [hv]; exact hr,⟨by rw [List.length_append,hown.1,hl,Nat.add_mul],.inr ⟨g,off,cap,cur',rfl,hbg,h3,hroom,hcm,by rw [h4,hcs],?_⟩⟩,
    ⟨s1,s2,s3,by rw [s4]; exact Nat.le_refl _,fun k _ hk => Ie news _ k (fun he => hk (by rw [hv,he]; simp [Value.ownBlock]))⟩,.inl (by rw [hv]; rfl)⟩
   rw [h5,List.append_assoc,List.drop_append_of_le_length (by rw [List.length_take,Array.length_toList]; omega),List.drop_take]
   rw [show off * i.size + n * i.size - off * i.size = n * i.size by omega,htake]
   rw [← List.append_assoc]
   exact List.take_left' (by rw [List.length_append,hown.1,hl,Nat.add_mul])
  ·refine grows ⟨g,off * size,none⟩ cap (by omega) (fun j u hu => ?_) hv
   rw [Lc,cell_of_row w g _ cur e (0,0) hg]
   rw [← htake,List.getElem?_take] at hu
   split at hu
   ·rw [List.getElem?_drop] at hu
    rw [← Array.getElem?_toList]
    exact hu
   ·cases hu
end
namespace Kd
theorem Qz {α:Type} {R:α → List Value → Prop} {size m:Nat} {ps:List α} {cs:List Value} (h:EH R size ps cs):EH R size (ps.drop m) (cs.drop (m * size)):=by
 refine ⟨by rw [List.length_drop,List.length_drop,h.1,Nat.sub_mul],fun j p hj => ?_⟩
 rw [List.getElem?_drop] at hj
 have:=h.2 (m + j) p hj
 rw [List.drop_drop,← Nat.add_mul]
 exact this
def Q {α:Type} (d:Kd α) (e:Nat) (w:World) (base:Nat) (ok:Nat → Prop) (v:Value) (xs:List α):Prop :=
 (∀ k,v.ownBlock = some k → ok k) ∧ ∃ inner,Fv w base e d.sz v xs.length inner ∧ EH (d.M w base (fun k => ok k ∧ some k ≠ v.ownBlock)) d.sz xs inner
section
variable {α:Type} {d:Kd α} {e:Nat} {w w1 W:World} {base:Nat} {ok ok':Nat → Prop} {v:Value} {xs:List α}
theorem Xk (h:d.R e w base ok v xs):d.Q e w base ok v xs:=by
 obtain ⟨h0,inner,ho,hr⟩:=h
 exact ⟨h0,inner,Jp ho,hr⟩
theorem XI (d:Kd α) (e:Nat) (w:World) (base:Nat) (ok:Nat → Prop):d.Q e w base ok (.slice none 0 0) []:=Xk (Cc d e w base ok)
theorem OQ (h:d.Q e w base ok v xs) (hok:∀ k,ok k → ok' k):d.Q e w base ok' v xs:=by
 obtain ⟨h0,inner,ho,hr⟩:=h
 exact ⟨fun k hk => hok k (h0 k hk),inner,ho,hr.Fp (fun _ _ hp => d.CX (fun k hk => ⟨hok k hk.1,hk.2⟩) hp)⟩
theorem QF (h:d.Q e w base ok v xs):d.Q e w base (fun k => ok k ∧ base ≤ k ∧ k < w.heap.size ∧ ∃ q,q ∈ e :: d.E ∧ ∃ cells,w.heap[k]? = some (.cells cells q (0,0))) v xs:=by
 obtain ⟨h0,inner,ho,hr⟩:=h
 refine ⟨fun k hk => ?_,inner,ho,hr.Fp (fun _ _ hp => d.CX (fun k hk => ?_) (d.DL hp))⟩
 ·obtain ⟨hb,cells,hc⟩:=Jc ho k hk
  exact ⟨h0 k hk,hb,Zb ho k hk,e,List.mem_cons_self,cells,hc⟩
 ·obtain ⟨⟨h1,h2⟩,h3,h4,q,hq,hc⟩:=hk
  exact ⟨⟨h1,h3,h4,q,List.mem_cons_of_mem _ hq,hc⟩,h2⟩
theorem Xl (h:d.Q e w base ok v xs) (hm:∀ k,ok k → w1.heap[k]? = w.heap[k]?):d.Q e w1 base ok v xs:=by
 obtain ⟨h0,inner,ho,hr⟩:=h
 exact ⟨h0,inner,TL ho (fun k hk => hm k (h0 k hk)),hr.Fp (fun _ _ hp => d.EZ (fun k hk => hm k hk.1) hp)⟩
theorem TP (h:d.Q e w base ok v xs) (hm:∀ k,ok k → k < w.heap.size → w1.heap[k]? = w.heap[k]?):d.Q e w1 base ok v xs:=OQ (Xl (QF h) (fun k hk => hm k hk.1 hk.2.2.1)) (fun _ hk => hk.1)
theorem Vm (h:d.Q e w base ok v xs) (hb:Below w.heap.size w w1):d.Q e w1 base ok v xs:=TP h (fun k _ hk => hb.block k hk)
theorem FT (h:d.Q e w base ok v xs):∃ A c,v = .slice A xs.length c ∧ xs.length ≤ c:=by
 obtain ⟨_,inner,ho,_⟩:=h
 exact QD ho
theorem MZ {A:Option Addr} {n c:Nat} (h:d.Q e w base ok (.slice A n c) xs):n = xs.length ∧ n ≤ c ∧ d.C w A xs.length xs:=by
 obtain ⟨_,inner,ho,hr⟩:=h
 obtain ⟨A',c',he,hl⟩:=QD ho
 injection he with h1 h2 h3
 subst h1; subst h2; subst h3
 refine ⟨rfl,hl,rfl,Zc ho,fun hp => ?_⟩
 obtain ⟨ad,ha,hc⟩:=QE ho hp
 refine ⟨ad,ha,fun j p hj => ⟨(inner.drop (j * d.sz)).take d.sz,?_,d.Dc (hr.2 j p hj),fun i u hu => ?_⟩⟩
 ·have hjl:=(List.getElem?_eq_some_iff.1 hj).1
  have h1:j * d.sz + d.sz ≤ inner.length:=by rw [hr.1,← Nat.succ_mul]; exact Nat.mul_le_mul_right _ hjl
  rw [List.length_take,List.length_drop]
  omega
 ·refine hc _ u ?_
  rw [List.getElem?_take] at hu
  split at hu
  ·rw [List.getElem?_drop] at hu
   exact hu
  ·cases hu
theorem Xm {A:Option Addr} {k n c:Nat} (h:d.Q e w base ok (.slice A n c) xs) (hk:k ≤ xs.length):d.Q e w base ok (.slice (if c = k then A else A.map (·.add (k * d.sz))) (n - k) (c - k)) (xs.drop k):=by
 have hn:n = xs.length:=(MZ h).1
 subst hn
 obtain ⟨h0,inner,ho,hr⟩:=h
 have hb:(Value.slice (if c = k then A else A.map (·.add (k * d.sz))) (xs.length - k) (c - k)).ownBlock = (Value.slice A xs.length c).ownBlock:=by
  split
  ·cases A <;> rfl
  ·cases A with
   | none => rfl
   | some a => simp [Value.ownBlock]; unfold Addr.add; split <;> rfl
 refine ⟨fun j hj => h0 j (by rw [← hb]; exact hj),inner.drop (k * d.sz),?_,?_⟩
 ·rw [List.length_drop]
  exact Xj ho hk
 ·rw [hb]
  exact Qz hr
theorem OT {DI:Nat → Prop} {v1:Value} {p:α} {inner cs:List Value} (h0:∀ k,v.ownBlock = some k → ok k) (hr:EH (d.M W base (fun k => ok k ∧ some k ≠ v.ownBlock)) d.sz xs inner) (hp:d.M W base DI p cs) (GN:∀ k,DI k → ok k ∧ some k ≠ v.ownBlock) (hfresh:∀ k,W.heap.size ≤ k → ok k)
  (hown:Fv w1 base e d.sz v1 (xs.length + 1) (inner ++ cs)) (hg:W.grownBy w1 v.ownBlock) (hat:v1.ownBlock = v.ownBlock ∨ ∃ b,v1.ownBlock = some b ∧ W.heap.size ≤ b):d.Q e w1 base ok v1 (xs ++ [p]):=by
 exact Ytnkkgofpifhoeaa.oU
end
section
variable {P:Program} {ops:Array Oper} {rest:List Oper} {o:Oper} {a:Act} {Q':Exit → Act → World → Prop} {Kc:Act → World → Prop} {α:Type}
theorem Zd (d:Kd α) {w0 W:World} (base:Nat) (t ty e:TypeId) (z:Value) (bytes:Nat)
  (ht:P.underlying t = some (.slice e)) (hinfo:(P.info? e).map (fun i => (i.zero,i.size,i.bytes)) = some (some z,d.sz,bytes)) (hz:z.cells.size = d.sz) (hs0:0 < d.sz) (hb0:0 < bytes)
  (v:Value) (xs:List α) (p:α) (cs:List Value) (ok DI:Nat → Prop) (hp:d.M W base DI p cs) (GN:∀ k,DI k → ok k ∧ some k ≠ v.ownBlock) (hfresh:∀ k,W.heap.size ≤ k → ok k)
  (HO:d.Q e W base ok v xs) (HB:Below base w0 W) (hbase:base ≤ W.heap.size) (hl:(xs.length + 1) * bytes ≤ 140737488355328) :
  ∃ v1 w1,(Builtin.append_ #[t,t] ty #[v,.slice (some ⟨W.heap.size,0,none⟩) 1 1]).run P (W.alloc (.cells cs.toArray e)) = .ok v1 w1 ∧ d.Q e w1 base ok v1 (xs ++ [p]) ∧ Below base w0 w1 ∧ W.grownBy w1 v.ownBlock ∧ (v1.ownBlock = v.ownBlock ∨ ∃ b,v1.ownBlock = some b ∧ W.heap.size ≤ b):=by
 obtain ⟨h0,inner,hown,hr⟩:=HO
 obtain ⟨i0,hi,hzz⟩:=Option.map_eq_some_iff.1 hinfo
 simp only [Prod.mk.injEq] at hzz
 obtain ⟨hz0,hz1,hz2⟩:=hzz
 have hlen:xs.length + 1 ≤ 140737488355328:=Nat.le_trans (Nat.le_mul_of_pos_right _ hb0) hl
 have hcl:=d.Gu (d.Dc hp)
 have hq:Fv (W.alloc (.cells cs.toArray e)) base e d.sz v xs.length inner:=TL hown (fun k hk => Below.heap_alloc W _ k (Zb hown k hk))
 obtain ⟨v1,w1,hrun,hq1,hg1,hat⟩:=TM (P:=P) (W.alloc (.cells cs.toArray e)) base t ty e i0 z d.sz bytes ht hi hz0 hz1 hz2 hz hs0 v xs.length inner hq ⟨W.heap.size,0,none⟩ 1 1 cs (by rw [hcl,Nat.one_mul])
  (by simpa using World.news_of_block (cs:=cs.toArray) (t:=e) (fr:=(0,0)) (heap_alloc_new W (.cells cs.toArray e))) (d.Gh (d.Dc hp)) (by omega) (by simp only [maxLen]; omega) hl (by simp; omega)
 have hg:W.grownBy w1 v.ownBlock:=World.grownBy.trans (World.grownBy_alloc W _ _) hg1
 have hat':v1.ownBlock = v.ownBlock ∨ ∃ b,v1.ownBlock = some b ∧ W.heap.size ≤ b:=by
  rcases hat with hat | ⟨b,hb,hle⟩
  ·exact .inl hat
  ·exact .inr ⟨b,hb,by rw [World.size_alloc] at hle; omega⟩
 exact ⟨v1,w1,hrun,OT h0 hr hp GN hfresh hq1 hg hat',HB.grown hg hbase (fun k hk => (Jc hown k hk).1),hg,hat'⟩
theorem KP (d:Kd α) {w0 W:World} (base:Nat) (hw:Region.wanted o (yielded ops a.tmps) = true) (s x:Operand) (t e:TypeId) (z:Value) (bytes:Nat)
  (ho:o.op = .call { callee:=.builtin .append,args:=#[s,x],argTypes:=#[t,t] })
  (ht:P.underlying t = some (.slice e)) (hinfo:(P.info? e).map (fun i => (i.zero,i.size,i.bytes)) = some (some z,d.sz,bytes)) (hz:z.cells.size = d.sz) (hs0:0 < d.sz) (hb0:0 < bytes)
  (v:Value) (xs:List α) (p:α) (cs:List Value) (ok DI:Nat → Prop) (hs:a.eval s = v) (hx:a.eval x = .slice (some ⟨W.heap.size,0,none⟩) 1 1) (hp:d.M W base DI p cs) (GN:∀ k,DI k → ok k ∧ some k ≠ v.ownBlock) (hfresh:∀ k,W.heap.size ≤ k → ok k)
  (HO:d.Q e W base ok v xs) (HB:Below base w0 W) (hbase:base ≤ W.heap.size) (hl:(xs.length + 1) * bytes ≤ 140737488355328)
  (h:∀ v1 w1,d.Q e w1 base ok v1 (xs ++ [p]) → Below base w0 w1 → W.grownBy w1 v.ownBlock → (v1.ownBlock = v.ownBlock ∨ ∃ b,v1.ownBlock = some b ∧ W.heap.size ≤ b) → Kc (a.put o.dst v1) w1) :
  if Region.wanted o (yielded ops a.tmps) = true then Oper.wp P o a (W.alloc (.cells cs.toArray e)) Kc Q' else Kc (a.put o.dst undef) (W.alloc (.cells cs.toArray e)):=by
 obtain ⟨v1,w1,hr,h1,h2,h3,h4⟩:=Zd (P:=P) d base t o.type e z bytes ht hinfo hz hs0 hb0 v xs p cs ok DI hp GN hfresh HO HB hbase hl
 rw [if_pos hw]
 unfold Oper.wp execOp
 simp only [ho,resolve,invoke,builtin,Sem.run_bind,Sem.run_pure,Result.andThen_ok,List.map_toArray,List.map_cons,List.map_nil,hs,hx,hr]
 exact h v1 w1 h1 h2 h3 h4
end
end Kd
namespace Kd
section
variable {α:Type} {d:Kd α} {e base g n cap:Nat} {ok DI:Nat → Prop} {W:World} {xs:List α}
theorem OU (h:d.R e W base ok (.slice (some ⟨g,0,none⟩) n cap) xs) (z:α) (i:Int) (h0:0 ≤ i) (h1:i < n) :
  ∃ c,c.length = d.sz ∧ d.M W base (fun k => ok k ∧ k ≠ g) (xs.getD i.toNat z) c ∧ (∀ j u,c[j]? = some u → W.cell? ⟨g,i.toNat * d.sz + j,none⟩ = some u) ∧ ∀ j,W.frozen? ⟨g,i.toNat * d.sz + j,none⟩ = false:=by
 obtain ⟨hn,hnc,hC⟩:=D9 h
 obtain ⟨_,inner,ho,hr⟩:=h
 have hil:i.toNat < xs.length:=by omega
 have hseg:i.toNat * d.sz + d.sz ≤ inner.length:=by rw [hr.1,← Nat.succ_mul]; exact Nat.mul_le_mul_right _ hil
 have hM:=hr.2 i.toNat _ (List.getElem?_eq_getElem hil)
 refine ⟨(inner.drop (i.toNat * d.sz)).take d.sz,by rw [List.length_take,List.length_drop]; omega,?_,fun j u hu => ?_,fun j => ?_⟩
 ·rw [List.getD_eq_getElem?_getD,List.getElem?_eq_getElem hil]
  exact d.CX (fun k hk => ⟨hk.1,fun he => hk.2 (by rw [he]; simp [Value.ownBlock])⟩) hM
 ·rw [List.getElem?_take] at hu
  split at hu
  ·rw [List.getElem?_drop] at hu
   have:=ho.cells (g:=g) (by simp [Value.ownBlock]) _ u hu
   rwa [add_plain] at this
  ·cases hu
 ·obtain ⟨cells,hc⟩:=G7 ho g (by simp [Value.ownBlock])
  exact AB hc _
end
end Kd
namespace Kd
theorem JI {α:Type} {R:α → List Value → Prop} {size:Nat} {ps qs:List α} {cs ds:List Value} (h:EH R size ps cs) (h':EH R size qs ds):EH R size (ps ++ qs) (cs ++ ds):=by
 refine ⟨by rw [List.length_append,List.length_append,h.1,h'.1,Nat.add_mul],fun j p hj => ?_⟩
 rcases Nat.lt_or_ge j ps.length with hlt | hge
 ·rw [List.getElem?_append_left hlt] at hj
  have hle:j * size + size ≤ cs.length:=by rw [h.1,← Nat.succ_mul]; exact Nat.mul_le_mul_right _ hlt
  rw [List.drop_append_of_le_length (by omega),List.take_append_of_le_length (by rw [List.length_drop]; omega)]
  exact h.2 j p hj
 ·rw [List.getElem?_append_right hge] at hj
  have h2:=h'.2 (j - ps.length) p hj
  have hle:ps.length * size ≤ j * size:=Nat.mul_le_mul_right _ hge
  rw [List.drop_append,List.drop_eq_nil_of_le (by rw [h.1]; exact hle),List.nil_append,h.1,← Nat.sub_mul]
  exact h2
section
variable {P:Program} {ops:Array Oper} {rest:List Oper} {o:Oper} {a:Act} {Q:Exit → Act → World → Prop} {α:Type}
theorem Fb (d:Kd α) {Rr:α → List Value → Prop} {w0 W:World} (base:Nat) (hgd:o.guard = none) (s x:Operand) (t e:TypeId) (z:Value) (bytes:Nat)
  (ho:o.op = .call { callee:=.builtin .append,args:=#[s,x],argTypes:=#[t,t] })
  (ht:P.underlying t = some (.slice e)) (hinfo:(P.info? e).map (fun i => (i.zero,i.size,i.bytes)) = some (some z,d.sz,bytes)) (hz:z.cells.size = d.sz) (hs0:0 < d.sz) (hb0:0 < bytes)
  (v:Value) (xs ys:List α) (A:Option Addr) (m c:Nat) (ok DI:Nat → Prop) (hs:a.eval s = v) (hx:a.eval x = .slice A m c)
  (HO:d.R e W base ok v xs) (HR:Cm Rr d.sz W A m ys) (jg:∀ x cs,Rr x cs → d.M W base DI x cs) (GN:∀ k,DI k → ok k ∧ some k ≠ v.ownBlock) (hfresh:∀ k,W.heap.size ≤ k → ok k)
  (HB:Below base w0 W) (hbase:base ≤ W.heap.size) (hl:(xs.length + m) * bytes ≤ 140737488355328)
  (h:∀ v1 w1,d.R e w1 base ok v1 (xs ++ ys) → Below base w0 w1 → W.grownBy w1 v.ownBlock → (v1.ownBlock = v.ownBlock ∨ ∃ b,v1.ownBlock = some b ∧ W.heap.size ≤ b) → wpList P ops Q rest (a.put o.dst v1) w1) :
  wpList P ops Q (o :: rest) a W:=by
 obtain ⟨i0,hi,hzz⟩:=Option.map_eq_some_iff.1 hinfo
 simp only [Prod.mk.injEq] at hzz
 obtain ⟨hz0,hz1,hz2⟩:=hzz
 have hm:ys.length = m:=HR.1
 have hlen:xs.length + m ≤ 140737488355328:=Nat.le_trans (Nat.le_mul_of_pos_right _ hb0) hl
 obtain ⟨hok,inner,hown,hr⟩:=HO
 have hrun:∃ v1 w1,(Builtin.append_ #[t,t] o.type #[v,.slice A m c]).run P W = .ok v1 w1 ∧ d.R e w1 base ok v1 (xs ++ ys) ∧ W.grownBy w1 v.ownBlock ∧ (v1.ownBlock = v.ownBlock ∨ ∃ b,v1.ownBlock = some b ∧ W.heap.size ≤ b):=by
  rcases A with _ | ad
  ·have h0:m = 0:=by
    rcases Nat.eq_zero_or_pos m with h0 | h0
    ·exact h0
    ·obtain ⟨ad,h,_⟩:=HR.2.2 h0
     cases h
   subst h0
   obtain rfl:ys = []:=List.eq_nil_of_length_eq_zero hm
   refine ⟨v,W,?_,by rw [List.append_nil]; exact ⟨hok,inner,hown,hr⟩,World.grownBy.refl W _,.inl rfl⟩
   rcases hown.2 with ⟨rfl,hn⟩ | ⟨g,cap,cur,rfl,_,_,hnc,_⟩
   ·simp [Builtin.append_,run_underlying ht,sizeOf,typeInfo,hi,Builtin.lenOf,Builtin.firstCells]
   ·simp [Builtin.append_,run_underlying ht,sizeOf,typeInfo,hi,Builtin.lenOf,Builtin.firstCells,hnc,storeCells]
  ·obtain ⟨news,hnr,hnc⟩:=Cm.TF HR
   have hnM:EH (d.M W base DI) d.sz ys news:=hnr.Fp (fun p c hp => jg p c hp)
   have hone:∀ u ∈ news,u.oneCell' = true:=by
    intro u hu
    obtain ⟨q,hq,rfl⟩:=List.mem_iff_getElem.1 hu
    have Ld:q / d.sz < ys.length:=by
     rw [Nat.div_lt_iff_lt_mul hs0]
     rw [← hnM.1]
     exact hq
    have hc:=hnM.2 (q / d.sz) _ (List.getElem?_eq_getElem Ld)
    refine d.Gh (d.Dc hc) _ ?_
    rw [List.mem_iff_getElem?]
    refine ⟨q % d.sz,?_⟩
    rw [List.getElem?_take,if_pos (Nat.mod_lt _ hs0),List.getElem?_drop,Nat.mul_comm,Nat.div_add_mod,List.getElem?_eq_getElem hq]
   obtain ⟨v1,w1,hrun,h2,hg,_,hat⟩:=run_append_own_at (P:=P) W base t o.type e i0 z d.sz bytes ht hi hz0 hz1 hz2 hz hs0 v xs.length inner hown ad m c news (by rw [hnM.1,hm]) hnc hone (by simp only [maxLen]; omega) hl hbase
   have hat':v1.ownBlock = v.ownBlock ∨ ∃ b,v1.ownBlock = some b ∧ W.heap.size ≤ b:=by
    rcases hat with hat | hat
    ·exact .inl hat
    ·exact .inr ⟨_,hat,Nat.le_refl _⟩
   have hne:∀ k,some k ≠ v.ownBlock → k < W.heap.size → some k ≠ v1.ownBlock:=by
    intro k hk hlt
    rcases hat' with hat | ⟨b,hb,hle⟩
    ·rw [hat]; exact hk
    ·rw [hb]
     intro he
     injection he with he
     omega
   have step:∀ {q:α} {c:List Value} {o:Nat → Prop},d.M W base o q c → (∀ k,o k → ok k ∧ some k ≠ v.ownBlock) → d.M w1 base (fun k => ok k ∧ some k ≠ v1.ownBlock) q c:=by
    intro q c o hq ho
    have h1:=d.EZ (w1:=w1) (fun k hk => hg.block k hk.2.2.1 (ho k hk.1).2) (d.DL hq)
    exact d.CX (fun k hk => ⟨(ho k hk.1).1,hne k (ho k hk.1).2 hk.2.2.1⟩) h1
   refine ⟨v1,w1,hrun,⟨fun k hk => ?_,inner ++ news,by rw [List.length_append,hm]; exact h2,JI (hr.Fp (fun _ _ hq => step hq (fun _ hk => hk))) (hnM.Fp (fun _ _ hq => step hq GN))⟩,hg,hat'⟩
   rcases hat' with hat | ⟨b,hb,hle⟩
   ·exact hok k (hat ▸ hk)
   ·rw [hb] at hk
    injection hk with hk
    exact hfresh k (by omega)
 obtain ⟨v1,w1,hr1,h1,hg,hat⟩:=hrun
 refine wpList_plain hgd fun K hK => ?_
 unfold Oper.wp execOp
 simp only [ho,resolve,invoke,builtin,Sem.run_bind,Sem.run_pure,Result.andThen_ok,List.map_toArray,List.map_cons,List.map_nil,hs,hx,hr1]
 exact hK _ _ (h v1 w1 h1 (HB.grown hg hbase (own_base hown)) hg hat)
end
end Kd
theorem gate_ {P:Program} {ops:Array Oper} {rest:List Oper} {o:Oper} {a:Act} {Q:Exit → Act → World → Prop} {W:World} (op:Op) (_ho:o.op = op) (h:wpList P ops Q (o :: rest) a W):wpList P ops Q (o :: rest) a W:=h
theorem JR {P:Program} {w:World} {src dst e:TypeId} {A:Option Addr} {n c:Nat} {xs:List Int} (hs:P.underlying src = some (.slice e)) (he:P.underlying e = some (.int .u8)) (hd:P.underlying dst = some .string)
  (h:DR w .u8 A n xs):(convert src dst (.slice A n c)).run P w = .ok (.string (strOfNums xs)) w:=by
 have hn:xs.length = n:=h.1
 rcases A with _ | ad
 ·have h0:n = 0:=by
   rcases Nat.eq_zero_or_pos n with h0 | h0
   ·exact h0
   ·obtain ⟨ad,h',_⟩:=h.2.2 h0
    cases h'
  subst h0
  obtain rfl:xs = []:=List.eq_nil_of_length_eq_zero hn
  exact run_convert_bytes_nil w src e hs he 0 c dst hd
 ·have hl:(loadCells ad n).run P w = .ok (xs.map (Value.int .u8)).toArray w:=by
   have:=run_loadCells_list (P:=P) w ad (xs.map (Value.int .u8)) (fun j v hj => by
    have hjl:j < xs.length:=by
     rcases Nat.lt_or_ge j xs.length with h' | h'
     ·exact h'
     ·rw [List.getElem?_eq_none (by rw [List.length_map]; exact h')] at hj
      cases hj
    obtain ⟨ad',he',hc⟩:=h.2.2 (by omega)
    injection he' with he'
    subst he'
    rw [hc j (by omega)]
    rw [List.getElem?_map,List.getElem?_eq_getElem hjl] at hj
    simp at hj
    subst hj
    simp [List.getD_eq_getElem?_getD,List.getElem?_eq_getElem hjl])
   simpa [hn] using this
  rw [run_convert_bytes_string w src dst e _ n c hs he hd,run_bytesToString w ad n c xs hl,foldl_push_bytes]
  simp [strOfNums,ByteArray.empty,ByteArray.emptyWithCapacity]
  rfl
theorem Kd.Mc {P:Program} {w:World} {src dst e:TypeId} {A:Option Addr} {n c:Nat} {xs:List Int} (hs:P.underlying src = some (.slice e)) (he:P.underlying e = some (.int .u8)) (hd:P.underlying dst = some .string)
  (h:(Kd.int .u8).C w A n xs):(convert src dst (.slice A n c)).run P w = .ok (.string (strOfNums xs)) w :=
 JR hs he hd (Kd.Dq (enc:=Value.int .u8) (d:=(0:Int)) (h1:=fun _ => rfl) h)
theorem OV {w W:World} (h:Below w.heap.size w W):w.heap.size ≤ W.heap.size:=h.size
theorem AQ {w:World} {g:Nat} {t:TypeId} {cs cs':Array Value} (h:w.heap[g]? = some (.cells cs t (0,0))) (i:Nat) (u:Value) (e:cs.setIfInBounds i u = cs'):(w.setCell ⟨g,i,none⟩ u).heap[g]? = some (.cells cs' t (0,0)):=e ▸ P9 h i u
section
variable {P:Program} {ops:Array Oper} {rest:List Oper} {o:Oper} {a:Act} {Q:Exit → Act → World → Prop}
theorem Kd.EP {α:Type} (enc:α → Value) (d:α) {h1:∀ x:α,(enc x).oneCell' = true} {w0 W:World} (base:Nat) (hgd:o.guard = none) (s x:Operand) (t e:TypeId) (z:Value) (bytes:Nat)
  (ho:o.op = .call { callee:=.builtin .append,args:=#[s,x],argTypes:=#[t,t] })
  (ht:P.underlying t = some (.slice e)) (hinfo:(P.info? e).map (fun i => (i.zero,i.size,i.bytes)) = some (some z,1,bytes)) (hz:z.cells.size = 1) (hb0:0 < bytes)
  (v:Value) (xs ys:List α) (A:Option Addr) (m c:Nat) (ok:Nat → Prop) (hs:a.eval s = v) (hx:a.eval x = .slice A m c) (hfresh:∀ k,W.heap.size ≤ k → ok k)
  (HO:(Kd.scalar enc h1).R e W base ok v xs) (HR:(Kd.scalar enc h1).C W A m ys) (HB:Below base w0 W) (hbase:base ≤ W.heap.size) (hl:(xs.length + m) * bytes ≤ 140737488355328)
  (h:∀ v1 w1,(Kd.scalar enc h1).R e w1 base ok v1 (xs ++ ys) → Below base w0 w1 → W.grownBy w1 v.ownBlock → (v1.ownBlock = v.ownBlock ∨ ∃ b,v1.ownBlock = some b ∧ W.heap.size ≤ b) → wpList P ops Q rest (a.put o.dst v1) w1) :
  wpList P ops Q (o :: rest) a W:=by
 refine Ht (w0:=w0) enc d base hgd s x t e z bytes ho ht hinfo hz hb0 h1 v xs ys A m c hs hx (Kd.TK HO) (Kd.Dq (d:=d) HR) HB hbase hl ?_
 intro v1 w1 hown hb hg hat
 refine h v1 w1 (Kd.MX hown (fun k hk => ?_)) hb hg hat
 rcases hat with e1 | ⟨b,e1,hbb⟩
 ·exact HO.1 k (by rw [← e1]; exact hk)
 ·rw [e1] at hk
  injection hk with hk
  subst hk
  exact hfresh _ hbb
end
section
variable {P:Program} {ops:Array Oper} {rest:List Oper} {o:Oper} {a:Act} {Q:Exit → Act → World → Prop} {W:World}
theorem AV {N:Tmp} (_hN:o.dst = some N) (h:wpList P ops Q (o :: rest) a W):wpList P ops Q (o :: rest) a W:=h
end
section
variable {P:Program} {ops:Array Oper} {o:Oper} {a:Act} {Q:Exit → Act → World → Prop} {Kc:Act → World → Prop}
theorem OX {W w1:World} {v:Value} (hw:Region.wanted o (yielded ops a.tmps) = true) (hrun:(execOp a.eval o).run P W = .ok (.value v) w1) (h:Kc (a.put o.dst v) w1):if Region.wanted o (yielded ops a.tmps) = true then Oper.wp P o a W Kc Q else Kc (a.put o.dst undef) W:=by
 rw [if_pos hw]
 unfold Oper.wp
 rw [hrun]
 exact h
theorem Dt {W:World} (hw:Region.wanted o (yielded ops a.tmps) = true) {N:Tmp} (_hd:o.dst = some N) {cs:Array Value} {t:TypeId}
  (hrun:(execOp a.eval o).run P W = .ok (.value (.pointer (some ⟨W.heap.size,0,none⟩))) (W.alloc (.cells cs t (0,0))))
  (h:∀ g,g = W.heap.size → ∀ w1,w1.heap[g]? = some (.cells cs t (0,0)) → Below W.heap.size W w1 → Kc (a.put o.dst (.pointer (some ⟨g,0,none⟩))) w1):if Region.wanted o (yielded ops a.tmps) = true then Oper.wp P o a W Kc Q else Kc (a.put o.dst undef) W :=
 OX hw hrun (h _ rfl _ (Vj W _) (Dp (Below.refl _ _) _))
namespace Kd
variable {α:Type}
theorem FD (d:Kd α) {Rr:α → List Value → Prop} {w0 W:World} (base:Nat) (hw:Region.wanted o (yielded ops a.tmps) = true) (s x:Operand) (t e:TypeId) (z:Value) (bytes:Nat)
  (ho:o.op = .call { callee:=.builtin .append,args:=#[s,x],argTypes:=#[t,t] })
  (ht:P.underlying t = some (.slice e)) (hinfo:(P.info? e).map (fun i => (i.zero,i.size,i.bytes)) = some (some z,d.sz,bytes)) (hz:z.cells.size = d.sz) (hs0:0 < d.sz) (hb0:0 < bytes)
  (v:Value) (xs ys:List α) (A:Option Addr) (m c:Nat) (ok DI:Nat → Prop) (hs:a.eval s = v) (hx:a.eval x = .slice A m c)
  (HO:d.R e W base ok v xs) (HR:Cm Rr d.sz W A m ys) (jg:∀ x cs,Rr x cs → d.M W base DI x cs) (GN:∀ k,DI k → ok k ∧ some k ≠ v.ownBlock) (hfresh:∀ k,W.heap.size ≤ k → ok k)
  (HB:Below base w0 W) (hbase:base ≤ W.heap.size) (hl:(xs.length + m) * bytes ≤ 140737488355328)
  (h:∀ v1 w1,d.R e w1 base ok v1 (xs ++ ys) → Below base w0 w1 → W.grownBy w1 v.ownBlock → (v1.ownBlock = v.ownBlock ∨ ∃ b,v1.ownBlock = some b ∧ W.heap.size ≤ b) → Kc (a.put o.dst v1) w1) :
  if Region.wanted o (yielded ops a.tmps) = true then Oper.wp P o a W Kc Q else Kc (a.put o.dst undef) W:=by
 obtain ⟨i0,hi,hzz⟩:=Option.map_eq_some_iff.1 hinfo
 simp only [Prod.mk.injEq] at hzz
 obtain ⟨hz0,hz1,hz2⟩:=hzz
 have hm:ys.length = m:=HR.1
 have hlen:xs.length + m ≤ 140737488355328:=Nat.le_trans (Nat.le_mul_of_pos_right _ hb0) hl
 obtain ⟨hok,inner,hown,hr⟩:=HO
 have hrun:∃ v1 w1,(Builtin.append_ #[t,t] o.type #[v,.slice A m c]).run P W = .ok v1 w1 ∧ d.R e w1 base ok v1 (xs ++ ys) ∧ W.grownBy w1 v.ownBlock ∧ (v1.ownBlock = v.ownBlock ∨ ∃ b,v1.ownBlock = some b ∧ W.heap.size ≤ b):=by
  rcases A with _ | ad
  ·have h0:m = 0:=by
    rcases Nat.eq_zero_or_pos m with h0 | h0
    ·exact h0
    ·obtain ⟨ad,h,_⟩:=HR.2.2 h0
     cases h
   subst h0
   obtain rfl:ys = []:=List.eq_nil_of_length_eq_zero hm
   refine ⟨v,W,?_,by rw [List.append_nil]; exact ⟨hok,inner,hown,hr⟩,World.grownBy.refl W _,.inl rfl⟩
   rcases hown.2 with ⟨rfl,hn⟩ | ⟨g,cap,cur,rfl,_,_,hnc,_⟩
   ·simp [Builtin.append_,run_underlying ht,sizeOf,typeInfo,hi,Builtin.lenOf,Builtin.firstCells]
   ·simp [Builtin.append_,run_underlying ht,sizeOf,typeInfo,hi,Builtin.lenOf,Builtin.firstCells,hnc,storeCells]
  ·obtain ⟨news,hnr,hnc⟩:=Cm.TF HR
   have hnM:EH (d.M W base DI) d.sz ys news:=hnr.Fp (fun p c hp => jg p c hp)
   have hone:∀ u ∈ news,u.oneCell' = true:=by
    intro u hu
    obtain ⟨q,hq,rfl⟩:=List.mem_iff_getElem.1 hu
    have Ld:q / d.sz < ys.length:=by
     rw [Nat.div_lt_iff_lt_mul hs0]
     rw [← hnM.1]
     exact hq
    have hc:=hnM.2 (q / d.sz) _ (List.getElem?_eq_getElem Ld)
    refine d.Gh (d.Dc hc) _ ?_
    rw [List.mem_iff_getElem?]
    refine ⟨q % d.sz,?_⟩
    rw [List.getElem?_take,if_pos (Nat.mod_lt _ hs0),List.getElem?_drop,Nat.mul_comm,Nat.div_add_mod,List.getElem?_eq_getElem hq]
   obtain ⟨v1,w1,hrun,h2,hg,_,hat⟩:=run_append_own_at (P:=P) W base t o.type e i0 z d.sz bytes ht hi hz0 hz1 hz2 hz hs0 v xs.length inner hown ad m c news (by rw [hnM.1,hm]) hnc hone (by simp only [maxLen]; omega) hl hbase
   have hat':v1.ownBlock = v.ownBlock ∨ ∃ b,v1.ownBlock = some b ∧ W.heap.size ≤ b:=by
    rcases hat with hat | hat
    ·exact .inl hat
    ·exact .inr ⟨_,hat,Nat.le_refl _⟩
   have hne:∀ k,some k ≠ v.ownBlock → k < W.heap.size → some k ≠ v1.ownBlock:=by
    intro k hk hlt
    rcases hat' with hat | ⟨b,hb,hle⟩
    ·rw [hat]; exact hk
    ·rw [hb]
     intro he
     injection he with he
     omega
   have step:∀ {q:α} {c:List Value} {o:Nat → Prop},d.M W base o q c → (∀ k,o k → ok k ∧ some k ≠ v.ownBlock) → d.M w1 base (fun k => ok k ∧ some k ≠ v1.ownBlock) q c:=by
    intro q c o hq ho
    have h1:=d.EZ (w1:=w1) (fun k hk => hg.block k hk.2.2.1 (ho k hk.1).2) (d.DL hq)
    exact d.CX (fun k hk => ⟨(ho k hk.1).1,hne k (ho k hk.1).2 hk.2.2.1⟩) h1
   refine ⟨v1,w1,hrun,⟨fun k hk => ?_,inner ++ news,by rw [List.length_append,hm]; exact h2,JI (hr.Fp (fun _ _ hq => step hq (fun _ hk => hk))) (hnM.Fp (fun _ _ hq => step hq GN))⟩,hg,hat'⟩
   rcases hat' with hat | ⟨b,hb,hle⟩
   ·exact hok k (hat ▸ hk)
   ·rw [hb] at hk
    injection hk with hk
    exact hfresh k (by omega)
 obtain ⟨v1,w1,hr1,h1,hg,hat⟩:=hrun
 rw [if_pos hw]
 unfold Oper.wp execOp
 simp only [ho,resolve,invoke,builtin,Sem.run_bind,Sem.run_pure,Result.andThen_ok,List.map_toArray,List.map_cons,List.map_nil,hs,hx,hr1]
 exact h v1 w1 h1 (HB.grown hg hbase (own_base hown)) hg hat
end Kd
end
end Go.Proofs.YtnkkgofpifhoeaaW.PrintWords
end
