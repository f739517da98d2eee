/- What the laws of a pair are proved with: links and pairs in memory, what their methods do, what a pair keeps to (part 7). -/
import Derived.Test.YtnkkgofpifhoeaaPD6
import Derived.Deep.Slices
import Derived.ChangeSame
import Derived.ProofKit
set_option linter.unusedSimpArgs false
set_option linter.unusedVariables false
section
namespace Go.Proofs.Ytnkkgofpifhoeaa.Pr
open Go.ChangeShapes Go.WideShapes Go.ChangeAt Go.RowKit Go.Deep Go.Joins Go.Proofs.YtnkkgofpifhoeaaW.PrintWords
section
variable {H:Type} {enc:TypeId × Value → H} {w:World} {base:Nat} {held:Bool}
theorem bytes_of {fuel:Nat} {v:Value} {y:DataW H × List MemPlace} (h:DataW.trod enc Try.prog w base (fun _ => true) held fuel 22 [v] = some y) :
  ∃ A l c,v = .slice A l.length c ∧ l.length ≤ c ∧ (Kd.int .u8).C w A l.length l:=by
 rcases open_ints Try.underlying22 Try.underlying5 (by kernel_rfl) h with ⟨hcs,_⟩ | ⟨a',len',cap',zs,hcs,_,hl',hm',hz,_,hcell,_⟩
 ·have hv:v = .slice none 0 0:=by simpa using hcs
  subst hv
  exact ⟨none,[],0,rfl,Nat.le_refl _,rfl,by decide,fun h => absurd h (by decide)⟩
 ·have hv:v = .slice (some a') len' cap':=by simpa using hcs
  subst hv
  simp only [if_true] at hz
  have hmx:maxLen = 9223372036854775807:=rfl
  have hlen:(zs.take len').length = len':=by rw [List.length_take]; omega
  refine ⟨some a',zs.take len',cap',by rw [hlen],by rw [hlen]; exact hl',?_⟩
  rw [hlen]
  refine Kd.C_of_reads (d:=(0:Int)) (h1:=fun _ => rfl) ⟨hlen,by omega,fun hlp => ⟨a',rfl,fun c hc => ?_⟩⟩
  have e1:=hcell c (by omega)
  rw [e1]
  rw [List.getD_eq_getElem?_getD,List.getD_eq_getElem?_getD,List.getElem?_take_of_lt hc]
theorem four_of {P:Program} {t:TypeId} {f0 f1 f2 f3:Field} {fuel:Nat} {v0 v1 v2 v3:Value} {x:DataW H × List MemPlace} (hs:P.underlying t = some (.struct #[f0,f1,f2,f3])) (hone:oneCellFields P #[f0,f1,f2,f3] = true) (h:DataW.trod enc P w base (fun _ => true) held fuel t [v0,v1,v2,v3] = some x) :
  ∃ (y0 y1 y2 y3:DataW H × List MemPlace) (n:Nat),DataW.trod enc P w base (fun _ => true) held n f0.type [v0] = some y0 ∧ DataW.trod enc P w base (fun _ => true) held n f1.type [v1] = some y1 ∧ DataW.trod enc P w base (fun _ => true) held n f2.type [v2] = some y2 ∧ DataW.trod enc P w base (fun _ => true) held n f3.type [v3] = some y3:=by
 obtain ⟨y0,y1,y2,y3,n,_,_,h0,h1,h2,h3⟩:=trod_struct4 hs h
 obtain ⟨o0,k0⟩:=hone_of hone 0 f0 rfl
 obtain ⟨o1,k1⟩:=hone_of hone 1 f1 rfl
 obtain ⟨o2,k2⟩:=hone_of hone 2 f2 rfl
 obtain ⟨o3,k3⟩:=hone_of hone 3 f3 rfl
 exact ⟨y0,y1,y2,y3,n,by simpa [o0,k0] using h0,by simpa [o1,k1] using h1,by simpa [o2,k2] using h2,by simpa [o3,k3] using h3⟩
instance:Inhabited Act:=⟨nilA⟩
theorem act_of {fuel:Nat} {cs:List Value} {x:DataW H × List MemPlace} (hl:cs.length = 4) (h:DataW.trod enc Try.prog w base (fun _ => true) held fuel 72 cs = some x):∃ a:Act,act.K w a cs:=by
 match cs,hl with
 | [v0,v1,v2,v3],_ =>
  obtain ⟨y0,y1,y2,y3,n,h0,h1,h2,h3⟩:=four_of Try.underlying72 (by kernel_rfl) h
  obtain ⟨a0,e0,_,_⟩:=DataW.trod_int Try.underlying3 h0
  obtain ⟨a1,e1,_,_⟩:=DataW.trod_int Try.underlying3 h1
  obtain ⟨a2,e2,_,_⟩:=DataW.trod_int Try.underlying3 h2
  obtain ⟨A,l,c,e3,h4,h5⟩:=bytes_of h3
  simp at e0 e1 e2
  subst e0 e1 e2 e3
  exact ⟨⟨a0,a1,a2,l⟩,act_K.2 ⟨A,c,rfl,h4,h5⟩⟩
theorem acts_of_trod {fuel:Nat} {a0:Option Addr} {len0 cap0:Nat} {x:DataW H × List MemPlace} (h:DataW.trod enc Try.prog w base (fun _ => true) held fuel 60 [.slice a0 len0 cap0] = some x):∃ l,act.C w a0 len0 l:=by
 rcases open_slice Try.underlying60 h with ⟨hcs,_⟩ | ⟨a,len,cap,m,n,D,Pl,hcs,_,hl,hm,hmm,_,hx⟩
 ·simp at hcs
  obtain ⟨rfl,rfl,rfl⟩:=hcs
  exact ⟨[],rfl,by decide,fun h => absurd h (by decide)⟩
 ·simp at hcs
  obtain ⟨rfl,rfl,rfl⟩:=hcs
  simp only [if_true] at hmm
  subst hmm
  have hc4:Try.prog.cellsOf 72 = 4:=by kernel_rfl
  rw [hc4] at hx
  have each:∀ i,i < len0 → ∃ q:Act,∃ cs',cs'.length = 4 ∧ act.K w q cs' ∧ ∀ j u,cs'[j]? = some u → w.cell? (a.add (i * 4 + j)) = some u:=by
   intro i hi
   obtain ⟨cs',h1,h2⟩:=hx i (by omega)
   obtain ⟨_,hlen,hcell⟩:=World.cells?_some h1
   obtain ⟨q,hq⟩:=act_of hlen h2
   refine ⟨q,cs',hlen,hq,fun j u hu => ?_⟩
   have hj:j < 4:=by
    have:=(List.getElem?_eq_some_iff.1 hu).1
    omega
   have:=hcell j hj
   rw [Deep.add_add] at this
   rw [this]; exact hu
  obtain ⟨q,hq⟩:=choose_lt each
  have hmx:maxLen = 9223372036854775807:=rfl
  refine ⟨(List.range len0).map q,by simp,by omega,fun hp => ⟨a,rfl,fun j p hj => ?_⟩⟩
  have hjl:j < len0:=by
   by_cases hjl:j < len0
   ·exact hjl
   ·rw [List.getElem?_eq_none (by simp; omega)] at hj; cases hj
  rw [List.getElem?_map,List.getElem?_range hjl] at hj
  have hpq:q j = p:=Option.some.inj hj
  subst hpq
  exact hq j hjl
end
end Go.Proofs.Ytnkkgofpifhoeaa.Pr
end
