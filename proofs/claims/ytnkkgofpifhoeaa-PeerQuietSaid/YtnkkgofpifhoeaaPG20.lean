/- What the laws of a pair are proved with: links and pairs in memory, what their methods do, what a pair keeps to (part 20). -/
import Derived.Test.YtnkkgofpifhoeaaPG19
import Derived.Laws.StructEq
import Derived.MapFrom
import Derived.Deep.MidRow
import Derived.Deep.LoopGhost
set_option linter.unusedSimpArgs false
set_option linter.unusedVariables false
set_option maxRecDepth 100000
set_option maxHeartbeats 16000000
namespace Go.Proofs.Ytnkkgofpifhoeaa
theorem qE {p:Prop} (h:p:=by
 obtain ⟨es,clk,hb,hf⟩:=h
 rcases hf k with ⟨h1,h2⟩ | ⟨x,i,h1,h2⟩
 ·unfold found at h2
  rw [h1]
  simp [Instr.lookup,run_underlying Try.underlying165,MapKept.run_getObj_map hb,MapKept.run_checkKey Try.underlying3 (Eu k),MapKept.run_findKey Try.underlying3 h2,QZ,Result.andThen,ptr]
 ·unfold found at h2
  rw [h1]
  simp [Instr.lookup,run_underlying Try.underlying165,MapKept.run_getObj_map hb,MapKept.run_checkKey Try.underlying3 (Eu k),MapKept.run_findKey Try.underlying3 h2,QZ,Result.andThen]):p:=h
end Go.Proofs.Ytnkkgofpifhoeaa
section
namespace Go.Proofs.Ytnkkgofpifhoeaa.Ch
open Go.RowKit Go.Proofs.Ytnkkgofpifhoeaa.OG Go.Proofs.Ytnkkgofpifhoeaa.Base Go.Proofs.Ytnkkgofpifhoeaa.Num Go.Proofs.Ytnkkgofpifhoeaa.Steps Go.Proofs.YtnkkgofpifhoeaaW.PrintWords Go.Proofs.YtnkkgofpifhoeaaW.PrintLast
theorem Eu (k:Int):MapKept.IsKey (.int .i64) (.int .i64 k):=by simp [MapKept.IsKey]
theorem kS (w:World):(zeroValue 25).run Try.prog w = .ok (.complex .f64 0 0) w:=by kernel_rfl
def found (es:Array MapEntry) (k:Int):Option (Option (Nat × Value)):=Instr.findNow (.int .i64) (.int .i64 k) es.toList 0
def KW (es:Array MapEntry) (clk:Nat) (k:Int) (v:Value):Array MapEntry:=es.push { key:=.int .i64 k,val:=v,born:=clk }
theorem NZ (w:World) (r clk:Nat) (es:Array MapEntry) (k:Int) (v:Value) (hb:w.heap[r]? = some (.map es clk)) (h:found es k = some none) :
  ∃ w1,(Instr.mapUpdate 125 (.map (some r)) (.int .i64 k) v).run Try.prog w = .ok () w1 ∧ w1.heap[r]? = some (.map (KW es clk k v) (clk + 1)) ∧ At r w w1:=by
 unfold found at h
 refine ⟨{ w with heap:=w.heap.setIfInBounds r (.map (KW es clk k v) (clk + 1)) },?_,?_,?_⟩
 ·simp [Instr.mapUpdate,run_underlying Try.underlying125,MapKept.run_getObj_map hb,MapKept.run_checkKey Try.underlying3 (Eu k),MapKept.run_findKey Try.underlying3 h,MapKept.run_setObj_map _ hb,Result.andThen,KW]
 ·have:=AU hb
  simp [Array.getElem?_setIfInBounds,this]
 ·refine ⟨rfl,rfl,rfl,by simp,fun j hj => ?_⟩
  show (w.heap.setIfInBounds r _)[j]? = _
  rw [Array.getElem?_setIfInBounds]
  rw [if_neg (fun e => hj e.symm)]
theorem Na (w:World) (r clk i:Nat) (es:Array MapEntry) (k:Int) (v x:Value) (hb:w.heap[r]? = some (.map es clk)) (h:found es k = some (some (i,x))) (hi:∃ b,es[i]? = some { key:=.int .i64 k,val:=x,born:=b }) :
  ∃ w1,(Instr.mapUpdate 125 (.map (some r)) (.int .i64 k) v).run Try.prog w = .ok () w1 ∧ w1.heap[r]? = some (.map (es.modify i fun e => { e with key:=.int .i64 k,val:=v }) clk) ∧ At r w w1:=by
 unfold found at h
 obtain ⟨b,hi⟩:=hi
 refine ⟨{ w with heap:=w.heap.setIfInBounds r (.map (es.modify i fun e => { e with key:=.int .i64 k,val:=v }) clk) },?_,?_,?_⟩
 ·simp [Instr.mapUpdate,run_underlying Try.underlying125,MapKept.run_getObj_map hb,MapKept.run_checkKey Try.underlying3 (Eu k),MapKept.run_findKey Try.underlying3 h,hi,MapKept.run_keyThatStays (Eu k),MapKept.run_setObj_map _ hb,Result.andThen]
 ·have:=AU hb
  simp [Array.getElem?_setIfInBounds,this]
 ·refine ⟨rfl,rfl,rfl,by simp,fun j hj => ?_⟩
  show (w.heap.setIfInBounds r _)[j]? = _
  rw [Array.getElem?_setIfInBounds]
  rw [if_neg (fun e => hj e.symm)]
structure E8 (w:World) (g r:Nat) (p q:Nat) (es:Array MapEntry) (clk:Nat):Prop where
 blk:w.heap[g]? = some (.cells #[.complex .f64 p q,.map (some r)] 127 (0,0))
 map:w.heap[r]? = some (.map es clk)
 ne:g ≠ r
theorem E8.below {w w1:World} {g r p q clk:Nat} {es:Array MapEntry} (h:E8 w g r p q es clk) (hb:Below w.heap.size w w1):E8 w1 g r p q es clk :=
 ⟨(hb.block g (AU h.blk)).trans h.blk,(hb.block r (AU h.map)).trans h.map,h.ne⟩
def Qa (p q:Nat) (w:World) (e:Ending) (w':World):Prop:=∃ g r,e = .returned (.tuple #[.pointer (some ⟨g,0,none⟩),.int .i64 0]) ∧ E8 w' g r p q #[] 0 ∧ w.heap.size ≤ g ∧ w.heap.size ≤ r ∧ Below w.heap.size w w'
theorem YU (p q:Nat) (hp:p < 18446744073709551616) (hq:q < 18446744073709551616) (hpl:Bc p q = true) (w:World):Calls Try.prog 22 #[.complex .f64 p q] w (Qa p q w):=by
 have KG:=Lib.hid hpl
 have hmm:=fun (W:World) => run_makeMap (P:=Try.prog) 125 W
 clear hpl
 go_enter Try.func22,Try.ntmps22
 go_wp2_with (go_at_call 69; refine (NV p q hp hq _).mono ?_; rintro e w1 ⟨rfl,hb⟩; rw [KG.out]; have HB:=Lib.hid hb; clear hb)
 go_ret2
 unfold Qa
 have hsz:=HB.out.size
 have h1:=heap_alloc_new w1 (Obj.map #[] 0)
 have hb2:Below (w1.alloc (Obj.map #[] 0)).heap.size (w1.alloc (Obj.map #[] 0)) ((w1.alloc (Obj.map #[] 0)).alloc (Obj.cells #[.complex .f64 p q,.map (some w1.heap.size)] 127)):=(Below.refl _ _).alloc (Nat.le_refl _) _
 have h2:=heap_alloc_new (w1.alloc (Obj.map #[] 0)) (Obj.cells #[.complex .f64 p q,.map (some w1.heap.size)] 127)
 have hs:(w1.alloc (Obj.map #[] 0)).heap.size = w1.heap.size + 1:=by simp
 rw [hs] at h2
 refine ⟨_,_,rfl,⟨h2,(hb2.block _ (by rw [hs]; omega)).trans h1,by omega⟩,by omega,by omega,?_⟩
 exact (HB.out.alloc hsz _).alloc (by rw [hs]; omega) _
theorem YV (g r p q clk:Nat) (es:Array MapEntry) (w:World) (h:E8 w g r p q es clk):Calls Try.prog 24 #[.pointer (some ⟨g,0,none⟩)] w fun e w' => e = .returned (.complex .f64 p q) ∧ w = w':=by
 have hc0:w.cell? ⟨g,0,none⟩ = some (.complex .f64 p q):=(AA h.blk 0).trans rfl
 clear h
 go_enter Try.func24,Try.ntmps24
 go_wp2
 go_ret
 exact ⟨rfl,rfl⟩
end Go.Proofs.Ytnkkgofpifhoeaa.Ch
end
section
namespace Go.Proofs.Ytnkkgofpifhoeaa.Pe
open Go.RowKit Go.Proofs.Ytnkkgofpifhoeaa.Base Go.Proofs.Ytnkkgofpifhoeaa.Steps Go.Proofs.Ytnkkgofpifhoeaa.Lk Go.Proofs.Ytnkkgofpifhoeaa.Ch Go.Proofs.YtnkkgofpifhoeaaW.PrintWords
theorem QZ (w:World):(zeroValue 170).run Try.prog w = .ok (.pointer none) w:=by kernel_rfl
def ptr:Option Nat → Value
 | some x => .pointer (some ⟨x,0,none⟩)
 | none => .pointer none
def Mp (w:World) (r:Nat) (f:Int → Option Nat):Prop:=∃ es clk,w.heap[r]? = some (.map es clk) ∧ ∀ k,(f k = none ∧ found es k = some none) ∨ ∃ x i,f k = some x ∧ found es k = some (some (i,ptr (some x)))
theorem Mp.look {w:World} {r:Nat} {f:Int → Option Nat} (h:Mp w r f) (k:Int):(Instr.lookup 165 (.map (some r)) (.int .i64 k) true).run Try.prog w = .ok (.tuple #[ptr (f k),.bool (f k).isSome]) w:=by
 exact qE
theorem Mp.look1 {w:World} {r:Nat} {f:Int → Option Nat} (h:Mp w r f) (k:Int):(Instr.lookup 165 (.map (some r)) (.int .i64 k) false).run Try.prog w = .ok (ptr (f k)) w:=by
 exact qE
theorem Kv (e:MapEntry) (k j:Int) (he:e.key = .int .i64 k):∀ (l:List MapEntry) (i:Nat),Instr.findNow (.int .i64) (.int .i64 j) l i = some none → Instr.findNow (.int .i64) (.int .i64 j) (l ++ [e]) i = if j = k then some (some (i + l.length,e.val)) else some none
 | [],i,_ => by
  show Instr.findNow _ _ [e] i = _
  unfold Instr.findNow
  rw [he]
  by_cases hjk:j = k
  ·subst hjk; simp [Instr.sameNow]
  ·have hb:(j == k) = false:=by simp [hjk]
   simp [Instr.sameNow,Instr.findNow,hjk,hb]
 | x :: l,i,h => by
  show Instr.findNow _ _ (x :: (l ++ [e])) i = _
  unfold Instr.findNow at h ⊢
  cases hs:Instr.sameNow (.int .i64) (.int .i64 j) x.key with
  | none => rw [hs] at h; cases h
  | some b =>
   rw [hs] at h
   cases b
   ·simp only at h ⊢
    rw [Kv e k j he l (i + 1) h]
    by_cases hjk:j = k
    ·rw [if_pos hjk,if_pos hjk,List.length_cons,show i + 1 + l.length = i + (l.length + 1) by omega]
    ·rw [if_neg hjk,if_neg hjk]
   ·cases h
theorem Nb (e:MapEntry) (k j:Int):∀ (l:List MapEntry) (i:Nat) (y:Nat × Value),Instr.findNow (.int .i64) (.int .i64 j) l i = some (some y) → Instr.findNow (.int .i64) (.int .i64 j) (l ++ [e]) i = some (some y)
 | [],i,y,h => by cases h
 | x :: l,i,y,h => by
  show Instr.findNow _ _ (x :: (l ++ [e])) i = _
  unfold Instr.findNow at h ⊢
  cases hs:Instr.sameNow (.int .i64) (.int .i64 j) x.key with
  | none => rw [hs] at h; cases h
  | some b =>
   rw [hs] at h
   cases b
   ·exact Nb e k j l (i + 1) y h
   ·exact h
theorem Mp.put {w:World} {r x:Nat} {f:Int → Option Nat} (h:Mp w r f) (k:Int) (hk:f k = none) :
  ∃ w1,(Instr.mapUpdate 165 (.map (some r)) (.int .i64 k) (.pointer (some ⟨x,0,none⟩))).run Try.prog w = .ok () w1 ∧ Mp w1 r (fun j => if j = k then some x else f j) ∧ Steps.At r w w1:=by
 obtain ⟨es,clk,hb,hf⟩:=h
 have h0:found es k = some none:=by
  rcases hf k with ⟨_,h2⟩ | ⟨y,i,h1,_⟩
  ·exact h2
  ·rw [hk] at h1; cases h1
 have h0':=h0
 unfold found at h0
 refine ⟨{ w with heap:=w.heap.setIfInBounds r (.map (KW es clk k (.pointer (some ⟨x,0,none⟩))) (clk + 1)) },?_,⟨KW es clk k (.pointer (some ⟨x,0,none⟩)),clk + 1,?_,fun j => ?_⟩,?_⟩
 ·simp [Instr.mapUpdate,run_underlying Try.underlying165,MapKept.run_getObj_map hb,MapKept.run_checkKey Try.underlying3 (Eu k),MapKept.run_findKey Try.underlying3 h0,MapKept.run_setObj_map _ hb,Result.andThen,KW]
 ·have:=AU hb
  simp [Array.getElem?_setIfInBounds,this]
 ·rcases hf j with ⟨h1,h2⟩ | ⟨y,i,h1,h2⟩
  ·have h3:=Kv { key:=.int .i64 k,val:=.pointer (some ⟨x,0,none⟩),born:=clk } k j rfl es.toList 0 h2
   by_cases hjk:j = k
   ·subst hjk
    refine .inr ⟨x,0 + es.toList.length,if_pos rfl,?_⟩
    unfold found KW
    rw [Array.toList_push,h3,if_pos rfl]
    rfl
   ·refine .inl ⟨(if_neg hjk).trans h1,?_⟩
    unfold found KW
    rw [Array.toList_push,h3,if_neg hjk]
  ·have hjk:j ≠ k:=fun e => by rw [e,hk] at h1; cases h1
   refine .inr ⟨y,i,(if_neg hjk).trans h1,?_⟩
   unfold found KW
   rw [Array.toList_push]
   exact Nb _ k j es.toList 0 _ h2
 ·refine ⟨rfl,rfl,rfl,by simp,fun j hj => ?_⟩
  show (w.heap.setIfInBounds r _)[j]? = _
  rw [Array.getElem?_setIfInBounds]
  rw [if_neg (fun e => hj e.symm)]
theorem Mp.kept {w w':World} {r:Nat} {f:Int → Option Nat} {S:Nat → Prop} (h:Mp w r f) (hk:Kept w w' S) (hS:¬ S r):Mp w' r f:=by
 obtain ⟨es,clk,hb,hf⟩:=h
 exact ⟨es,clk,(hk.2 r (AU hb) hS).trans hb,hf⟩
theorem Mp.lt {w:World} {r:Nat} {f:Int → Option Nat} (h:Mp w r f):r < w.heap.size:=by
 obtain ⟨es,clk,hb,hf⟩:=h
 exact AU hb
end Go.Proofs.Ytnkkgofpifhoeaa.Pe
end
section
namespace Go.Proofs.Ytnkkgofpifhoeaa.Pe
open Go.RowKit Go.Proofs.Ytnkkgofpifhoeaa.Base Go.Proofs.Ytnkkgofpifhoeaa.Steps Go.Proofs.Ytnkkgofpifhoeaa.Lk Go.Proofs.Ytnkkgofpifhoeaa.Ch Go.Proofs.Ytnkkgofpifhoeaa.Num Go.Proofs.YtnkkgofpifhoeaaW.PrintWords
structure Pn where
 e:Lk
 quiet:Int
 echo:Int
structure Ps where
 ticks:Int
 me:Nat
 nodes:Nat
 pn:Nat → Pn
 evs:List (Int × Bool)
def Ps.has (X:Ps) (k:Nat):Prop:=1 ≤ k ∧ k ≤ X.nodes ∧ k ≠ X.me
def Ps.set (X:Ps) (k:Nat) (x:Pn):Ps:={ X with pn:=fun j => if j = k then x else X.pn j }
theorem Ps.CU (X:Ps) (k:Nat) (x:Pn):(X.set k x).pn k = x:=if_pos rfl
theorem Ps.EL (X:Ps) {k j:Nat} (h:j ≠ k) (x:Pn):(X.set k x).pn j = X.pn j:=if_neg h
def Ps.BP (X:Ps) (k:Nat) (L:Lk):Ps:=X.set k { X.pn k with e:=L }
structure Ad where
 r:Nat
 gc:Nat
 gx:Nat → Nat
 ge:Nat → Nat
def Ps.at_ (X:Ps) (a:Ad) (k:Int):Option Nat:=if 1 ≤ k ∧ k ≤ X.nodes ∧ k ≠ X.me then some (a.gx k.toNat) else none
theorem Ps.IV {X:Ps} {a:Ad} {k:Nat} (h:X.has k):X.at_ a k = some (a.gx k):=by
 unfold Ps.at_
 have h1:=h.1
 have h2:=h.2.1
 have h3:=h.2.2
 rw [if_pos ⟨by omega,by omega,by omega⟩]
 rfl
theorem Ps.J4 {X:Ps} {a:Ad} {k:Int} (h:¬ (1 ≤ k ∧ k ≤ X.nodes ∧ k ≠ X.me)):X.at_ a k = none:=if_neg h
def Ps.fix (X:Ps) (a:Ad) (gp k:Nat):Prop:=k = gp ∨ k = a.r ∨ ∃ j,X.has j ∧ k = a.gx j
def SY:Kd (Int × Bool):=Kd.pair (Kd.int .i64) Kd.bool
def mrow (X:Ps) (n:Int) (a:Ad) (v:Value):Array Value:=#[.int .u32 X.ticks,.int .i64 X.me,.int .i64 n,.map (some a.r),.pointer (some ⟨a.gc,0,none⟩),v]
def Gy (ge:Nat) (x:Pn):Array Value:=#[.pointer (some ⟨ge,0,none⟩),.int .i64 x.quiet,.int .u32 x.echo]
def Iq (w:World) (B gc:Nat) (o:Nat → Prop):Prop:=∃ rc p q es clk,E8 w gc rc p q es clk ∧ p < 18446744073709551616 ∧ q < 18446744073709551616 ∧ Bc p q = true ∧ o gc ∧ o rc ∧ B ≤ gc ∧ B ≤ rc ∧ ∀ x ∈ es.toList,MapKept.IsKey (.int .i64) x.key
theorem Iq.kept {w w':World} {B gc:Nat} {o S:Nat → Prop} (h:Iq w B gc o) (hk:Kept w w' S) (hS:∀ k,o k → ¬ S k):Iq w' B gc o:=by
 obtain ⟨rc,p,q,es,clk,h1,h2,h3,h4,h5,h6,h7⟩:=h
 exact ⟨rc,p,q,es,clk,⟨Ai h1.blk hk (hS _ h5),(hk.2 rc (AU h1.map) (hS _ h6)).trans h1.map,h1.ne⟩,h2,h3,h4,h5,h6,h7⟩
theorem Iq.mono {w:World} {B gc:Nat} {o o':Nat → Prop} (h:Iq w B gc o) (hm:∀ k,o k → o' k):Iq w B gc o':=by
 obtain ⟨rc,p,q,es,clk,h1,h2,h3,h4,h5,h6,h7⟩:=h
 exact ⟨rc,p,q,es,clk,h1,h2,h3,h4,hm _ h5,hm _ h6,h7⟩
structure BV (w:World) (B gp:Nat) (n:Int) (a:Ad) (own:Nat → Nat → Prop) (X:Ps) (v:Value):Prop where
 blk:w.heap[gp]? = some (.cells (mrow X n a v) 169 (0,0))
 map:Mp w a.r (X.at_ a)
 pk:∀ k,X.has k → w.heap[a.gx k]? = some (.cells (Gy (a.ge k) (X.pn k)) 172 (0,0))
 e:∀ k,X.has k → Lk.End w B (own (k + 1)) (a.ge k) (X.pn k).e
 ev:SY.R 99 w B (own 0) v X.evs
 ch:Iq w B a.gc (own 1)
 low:∀ k,X.fix a gp k → B ≤ k
 inj:∀ i j,X.has i → X.has j → a.gx i = a.gx j → i = j
 apart:∀ i k,own i k → ¬ X.fix a gp k
 Dn:∀ i j k,own i k → own j k → i = j
 lt:∀ i k,own i k → k < w.heap.size
def grow (own:Nat → Nat → Prop) (i:Nat) (w w':World):Nat → Nat → Prop:=fun j k => own j k ∨ j = i ∧ w.heap.size ≤ k ∧ k < w'.heap.size
def Al (X:Ps) (a:Ad) (gp:Nat) (own:Nat → Nat → Prop) (k:Nat):Prop:=X.fix a gp k ∨ ∃ i,own i k
section
variable {w w':World} {B gp:Nat} {n:Int} {a:Ad} {own:Nat → Nat → Prop} {X:Ps} {v:Value} (h:BV w B gp n a own X v)
include h
theorem BV.hB:B ≤ w.heap.size:=Nat.le_trans (h.low gp (.inl rfl)) (Nat.le_of_lt (AU h.blk))
theorem BV.Nc:∀ k,X.fix a gp k → k < w.heap.size:=fun k hk => by
 rcases hk with rfl | rfl | ⟨j,hj,rfl⟩
 ·exact AU h.blk
 ·exact h.map.lt
 ·exact AU (h.pk j hj)
theorem BV.WI:∀ k,Al X a gp own k → k < w.heap.size:=fun k hk => hk.elim (h.Nc k) (fun ⟨i,hi⟩ => h.lt i k hi)
theorem BV.YW:gp ≠ a.r:=fun he => by
 obtain ⟨es,clk,hb,_⟩:=h.map
 have h1:=h.blk
 rw [he,hb] at h1
 cases h1
theorem BV.aI {k:Nat} (hk:X.has k):a.gx k ≠ a.r:=fun he => by
 obtain ⟨es,clk,hb,_⟩:=h.map
 have h1:=h.pk k hk
 rw [he,hb] at h1
 cases h1
theorem BV.Ue {k:Nat} (hk:X.has k):a.gx k ≠ gp:=fun he => by
 have h1:=h.pk k hk
 rw [he,h.blk] at h1
 injection h1 with h1
 injection h1 with _ h1 _
 cases h1
theorem BV.kept {S:Nat → Prop} (hk:Kept w w' S) (hS:∀ k,Al X a gp own k → ¬ S k):BV w' B gp n a own X v :=
 ⟨Ai h.blk hk (hS _ (.inl (.inl rfl))),h.map.kept hk (hS _ (.inl (.inr (.inl rfl)))),fun k hx => Ai (h.pk k hx) hk (hS _ (.inl (.inr (.inr ⟨k,hx,rfl⟩)))),fun k hx => (h.e k hx).kept hk (fun j hj => hS j (.inr ⟨_,hj⟩)),Kd.BI h.ev hk (fun j hj => hS j (.inr ⟨_,hj⟩)),h.ch.kept hk (fun j hj => hS j (.inr ⟨_,hj⟩)),h.low,h.inj,h.apart,h.Dn,fun i k hi => Nat.lt_of_lt_of_le (h.lt i k hi) hk.1⟩
theorem BV.sub (hb:Below w.heap.size w w'):BV w' B gp n a own X v:=h.kept (Kept.of_below hb (fun _ => False)) (fun _ _ x => x)
theorem GG (i:Nat):∀ b c k,grow own i w w' b k → grow own i w w' c k → b = c:=by
 intro b c k hb hc
 rcases hb with hb | hb <;> rcases hc with hc | hc
 ·exact h.Dn b c k hb hc
 ·have:=h.lt b k hb; omega
 ·have:=h.lt c k hc; omega
 ·omega
theorem J5 (i:Nat):∀ b k,grow own i w w' b k → ¬ X.fix a gp k:=by
 intro b k hb hx
 rcases hb with hb | hb
 ·exact h.apart b k hb hx
 ·have:=h.Nc k hx; omega
theorem GV (i:Nat) (hs:w.heap.size ≤ w'.heap.size):∀ b k,grow own i w w' b k → k < w'.heap.size:=by
 intro b k hb
 rcases hb with hb | hb
 ·have:=h.lt b k hb; omega
 ·exact hb.2.2
theorem BV.col {i:Nat} {X':Ps} (hk:Kept w w' (own i)) (hm:X'.ticks = X.ticks ∧ X'.me = X.me ∧ X'.nodes = X.nodes) (hp:∀ k,X.has k → Gy (a.ge k) (X'.pn k) = Gy (a.ge k) (X.pn k))
  (he:∀ k,X.has k → Lk.End w' B (grow own i w w' (k + 1)) (a.ge k) (X'.pn k).e) (hv:SY.R 99 w' B (grow own i w w' 0) v X'.evs) (hc:Iq w' B a.gc (grow own i w w' 1)):BV w' B gp n a (grow own i w w') X' v:=by
 have hh:∀ k,X'.has k ↔ X.has k:=fun k => by unfold Ps.has; rw [hm.2.1,hm.2.2]
 have hf:∀ k,X'.fix a gp k ↔ X.fix a gp k:=fun k => by unfold Ps.fix; simp only [hh]
 have hat:X'.at_ a = X.at_ a:=by funext k; unfold Ps.at_; rw [hm.2.1,hm.2.2]
 refine ⟨?_,?_,fun k hx => ?_,fun k hx => he k ((hh k).1 hx),hv,hc,fun k hx => h.low k ((hf k).1 hx),fun i j hi hj => h.inj i j ((hh i).1 hi) ((hh j).1 hj),fun b k hb hx => J5 h i b k hb ((hf k).1 hx),GG h i,GV h i hk.1⟩
 ·rw [show mrow X' n a v = mrow X n a v by unfold mrow; rw [hm.1,hm.2.1]]
  exact Ai h.blk hk (fun hx => h.apart i _ hx (.inl rfl))
 ·rw [hat]
  exact h.map.kept hk (fun hx => h.apart i _ hx (.inr (.inl rfl)))
 ·rw [hp k ((hh k).1 hx)]
  exact Ai (h.pk k ((hh k).1 hx)) hk (fun hy => h.apart i _ hy (.inr (.inr ⟨k,(hh k).1 hx,rfl⟩)))
theorem BV.turn {k:Nat} (hx:X.has k) {L:Lk} (ht:Bg w B (own (k + 1)) (a.ge k) L w'):BV w' B gp n a (grow own (k + 1) w w') (X.BP k L) v:=by
 have hk:=ht.2.1
 refine h.col hk ⟨rfl,rfl,rfl⟩ (fun j hj => ?_) (fun j hj => ?_) (Kd.Az (Kd.BI h.ev hk (fun i hi hy => by have:=h.Dn 0 (k + 1) i hi hy; omega)) (fun _ hy => .inl hy)) ((h.ch.kept hk (fun i hi hy => by have:=h.Dn 1 (k + 1) i hi hy; have:=hx.1; omega)).mono (fun _ hy => .inl hy))
 ·by_cases hjk:j = k
  ·subst hjk; unfold Ps.BP; rw [Ps.CU]; rfl
  ·unfold Ps.BP; rw [Ps.EL X hjk]
 ·by_cases hjk:j = k
  ·subst hjk
   unfold Ps.BP
   rw [Ps.CU]
   exact ht.1.mono (fun i hi => hi.elim .inl (fun hn => .inr ⟨rfl,hn⟩))
  ·unfold Ps.BP
   rw [Ps.EL X hjk]
   exact ((h.e j hj).kept hk (fun i hi hy => by have:=h.Dn (j + 1) (k + 1) i hi hy; omega)).mono (fun _ hy => .inl hy)
theorem BV.XO (hk:Kept w w' (own 1)) (hc:Iq w' B a.gc (fun k => own 1 k ∨ w.heap.size ≤ k ∧ k < w'.heap.size)):BV w' B gp n a (grow own 1 w w') X v :=
 h.col hk ⟨rfl,rfl,rfl⟩ (fun _ _ => rfl) (fun j hj => ((h.e j hj).kept hk (fun i hi hy => by have:=h.Dn (j + 1) 1 i hi hy; have:=hj.1; omega)).mono (fun _ hy => .inl hy)) (Kd.Az (Kd.BI h.ev hk (fun i hi hy => by have:=h.Dn 0 1 i hi hy; omega)) (fun _ hy => .inl hy)) (hc.mono (fun i hi => hi.elim .inl (fun hn => .inr ⟨rfl,hn⟩)))
theorem BV.WJ {k:Nat} (hx:X.has k) {x:Pn} (he:x.e = (X.pn k).e) (hA:Steps.At (a.gx k) w w') (hb:w'.heap[a.gx k]? = some (.cells (Gy (a.ge k) x) 172 (0,0))):BV w' B gp n a own (X.set k x) v:=by
 have hk:Kept w w' (fun j => j = a.gx k):=⟨Nat.le_of_eq hA.size.symm,fun i _ hs => hA.block i hs⟩
 have hne:∀ i j,own i j → ¬ j = a.gx k:=fun i j hi hj => h.apart i j hi (.inr (.inr ⟨k,hx,hj⟩))
 refine ⟨Ai h.blk hk (fun e => h.Ue hx e.symm),h.map.kept hk (fun e => h.aI hx e.symm),fun j hj => ?_,fun j hj => ?_,Kd.BI h.ev hk (hne 0),h.ch.kept hk (hne 1),h.low,h.inj,h.apart,h.Dn,fun i j hi => Nat.lt_of_lt_of_le (h.lt i j hi) hk.1⟩
 ·by_cases hjk:j = k
  ·subst hjk; rw [Ps.CU]; exact hb
  ·rw [Ps.EL X hjk]; exact Ai (h.pk j hj) hk (fun e => hjk (h.inj j k hj hx e))
 ·by_cases hjk:j = k
  ·subst hjk; rw [Ps.CU,he]; exact (h.e j hj).kept hk (hne _)
  ·rw [Ps.EL X hjk]; exact (h.e j hj).kept hk (hne _)
theorem BV.puts {X':Ps} {v':Value} (hm:X'.me = X.me ∧ X'.nodes = X.nodes ∧ X'.pn = X.pn) (hA:Steps.At gp w w') (hb:w'.heap[gp]? = some (.cells (mrow X' n a v') 169 (0,0))) (hv:SY.R 99 w B (own 0) v' X'.evs):BV w' B gp n a own X' v':=by
 have hk:Kept w w' (fun j => j = gp):=⟨Nat.le_of_eq hA.size.symm,fun i _ hs => hA.block i hs⟩
 have hne:∀ i j,own i j → ¬ j = gp:=fun i j hi hj => h.apart i j hi (.inl hj)
 have hh:∀ k,X'.has k ↔ X.has k:=fun k => by unfold Ps.has; rw [hm.1,hm.2.1]
 have hf:∀ k,X'.fix a gp k ↔ X.fix a gp k:=fun k => by unfold Ps.fix; simp only [hh]
 have hat:X'.at_ a = X.at_ a:=by funext k; unfold Ps.at_; rw [hm.1,hm.2.1]
 refine ⟨hb,hat ▸ h.map.kept hk (fun e => h.YW e.symm),fun k hx => ?_,fun k hx => ?_,Kd.BI hv hk (hne 0),h.ch.kept hk (hne 1),fun k hx => h.low k ((hf k).1 hx),fun i j hi hj => h.inj i j ((hh i).1 hi) ((hh j).1 hj),fun b k hb hx => h.apart b k hb ((hf k).1 hx),h.Dn,fun i j hi => Nat.lt_of_lt_of_le (h.lt i j hi) hk.1⟩
 ·rw [hm.2.2]; exact Ai (h.pk k ((hh k).1 hx)) hk (h.Ue ((hh k).1 hx))
 ·rw [hm.2.2]; exact (h.e k ((hh k).1 hx)).kept hk (hne _)
theorem BV.news {v':Value} {l:List (Int × Bool)} (hk:Kept w w' (own 0)) (hv:SY.R 99 w' B (fun k => own 0 k ∨ w.heap.size ≤ k) v' l):BV (w'.setCell ⟨gp,5,none⟩ v') B gp n a (grow own 0 w w') { X with evs:=l } v':=by
 have hk2:Kept w' (w'.setCell ⟨gp,5,none⟩ v') (fun j => j = gp):=Kept.setCell (S:=fun j => j = gp) (Kept.refl w' _) (p:=⟨gp,5,none⟩) (.inl rfl) v'
 have hne:∀ i j,own i j → ¬ j = gp:=fun i j hi hj => h.apart i j hi (.inl hj)
 have hz:=hk2.1
 have hb1:=Ai h.blk hk (fun hx => h.apart 0 _ hx (.inl rfl))
 refine ⟨AQ hb1 5 v' rfl,(h.map.kept hk (fun hx => h.apart 0 _ hx (.inr (.inl rfl)))).kept hk2 (fun e => h.YW e.symm),fun k hx => ?_,fun k hx => ?_,?_,?_,h.low,h.inj,J5 h 0,GG h 0,fun b k hb => Nat.lt_of_lt_of_le (GV h 0 hk.1 b k hb) hz⟩
 ·exact Ai (Ai (h.pk k hx) hk (fun hy => h.apart 0 _ hy (.inr (.inr ⟨k,hx,rfl⟩)))) hk2 (h.Ue hx)
 ·exact (((h.e k hx).kept hk (fun i hi hy => by have:=h.Dn (k + 1) 0 i hi hy; omega)).kept hk2 (hne _)).mono (fun _ hy => .inl hy)
 ·refine Kd.Az (Kd.BI (Kd.CW hv) hk2 (fun k hy he => ?_)) (fun k hy => hy.1.elim .inl (fun hn => .inr ⟨rfl,hn,hy.2.2.1⟩))
  subst he
  rcases hy.1 with hy1 | hy1
  ·exact hne 0 _ hy1 rfl
  ·have:=AU h.blk; omega
 ·exact ((h.ch.kept hk (fun i hi hy => by have:=h.Dn 1 0 i hi hy; omega)).kept hk2 (hne 1)).mono (fun _ hy => .inl hy)
end
end Go.Proofs.Ytnkkgofpifhoeaa.Pe
end
section
namespace Go.Proofs.Ytnkkgofpifhoeaa.Pe
open Go.RowKit Go.Proofs.Ytnkkgofpifhoeaa.Base Go.Proofs.Ytnkkgofpifhoeaa.Steps Go.Proofs.Ytnkkgofpifhoeaa.Lk Go.Proofs.Ytnkkgofpifhoeaa.Ch Go.Proofs.Ytnkkgofpifhoeaa.Num Go.Proofs.YtnkkgofpifhoeaaW.PrintWords Go.Proofs.YtnkkgofpifhoeaaW.PrintLast
theorem WL {w:World} {r clk:Nat} {es:Array MapEntry} (k:Int) (hb:w.heap[r]? = some (.map es clk)) (hks:∀ x ∈ es.toList,MapKept.IsKey (.int .i64) x.key) :
  ∃ w1 es',(∀ ty,(Builtin.delete_ #[125,3] ty #[.map (some r),.int .i64 k]).run Try.prog w = .ok (.tuple #[]) w1) ∧ w1.heap[r]? = some (.map es' clk) ∧ (∀ x ∈ es'.toList,MapKept.IsKey (.int .i64) x.key) ∧ Steps.At r w w1:=by
 have hat:∀ o,Steps.At r w { w with heap:=w.heap.setIfInBounds r o }:=fun o => ⟨rfl,rfl,rfl,by simp,fun j hj => (MapKept.heap_set hb).2 j hj⟩
 rcases MapKept.findNow_spec (Eu k) es.toList 0 hks with ⟨h1,_⟩ | ⟨j,e,h1,_,_⟩
 ·refine ⟨{ w with heap:=w.heap.setIfInBounds r (.map es clk) },es,fun ty => ?_,(MapKept.heap_set hb).1,hks,hat _⟩
  simp [Builtin.delete_,run_underlying Try.underlying125,MapKept.run_getObj_map hb,MapKept.run_checkKey Try.underlying3 (Eu k),MapKept.run_findKey Try.underlying3 h1,MapKept.run_setObj_map _ hb,Result.andThen]
 ·refine ⟨{ w with heap:=w.heap.setIfInBounds r (.map (es.eraseIdxIfInBounds (0 + j)) clk) },es.eraseIdxIfInBounds (0 + j),fun ty => ?_,(MapKept.heap_set hb).1,fun x hx => ?_,hat _⟩
  ·simp [Builtin.delete_,run_underlying Try.underlying125,MapKept.run_getObj_map hb,MapKept.run_checkKey Try.underlying3 (Eu k),MapKept.run_findKey Try.underlying3 h1,MapKept.run_setObj_map _ hb,Result.andThen]
  ·have hs':(es.eraseIdxIfInBounds (0 + j)).toList.Sublist es.toList:=by
    unfold Array.eraseIdxIfInBounds
    split
    ·simp only [Array.toList_eraseIdx]; exact List.eraseIdx_sublist _ _
    ·exact List.Sublist.refl _
   exact hks x (hs'.subset hx)
theorem RZ {w:World} {B gc:Nat} {o:Nat → Prop} (h:Iq w B gc o) (node:Int):Calls Try.prog 134 #[.pointer (some ⟨gc,0,none⟩),.int .i64 node] w fun e w' => e = .returned (.tuple #[]) ∧ Iq w' B gc o ∧ Kept w w' o ∧ Below B w w':=by
 obtain ⟨rc,p,q,es,clk,hC,h2,h3,h4,h5,h6,h7,h8,h9⟩:=h
 obtain ⟨w1,es',hdel,hb1,hks,hat⟩:=WL node hC.map h9
 have hc1:w.cell? ⟨gc,1,none⟩ = some (.map (some rc)):=(AA hC.blk 1).trans rfl
 have qF:=hdel 0
 have hk:Kept w w1 o:=⟨Nat.le_of_eq hat.size.symm,fun i _ hs => hat.block i (fun e => hs (e ▸ h6))⟩
 have HP:=Lib.hid (show Iq w1 B gc o ∧ Kept w w1 o ∧ Below B w w1 from ⟨⟨rc,p,q,es',clk,⟨(hat.block gc hC.ne).trans hC.blk,hb1,hC.ne⟩,h2,h3,h4,h5,h6,h7,h8,hks⟩,hk,hat.below (Below.refl _ _) h8⟩)
 clear hk hat hks hb1 hdel h9 hC h2 h3 h4 h5 h6 h7 h8
 go_enter Try.func134,Try.ntmps134
 go_wp2_with fail
 go_end0
 exact ⟨rfl,HP.out⟩
theorem Uf {w:World} {B gp:Nat} {n:Int} {a:Ad} {own:Nat → Nat → Prop} {X:Ps} {v:Value} (h:BV w B gp n a own X v) (k:Nat) (hk:X.has k):Calls Try.prog 54 #[.pointer (some ⟨gp,0,none⟩),.int .i64 k] w fun e w' => e = .returned (.int .i64 (X.pn k).e.phase) ∧ w = w':=by
 have hc3:w.cell? ⟨gp,3,none⟩ = some (.map (some a.r)):=(AA h.blk 3).trans rfl
 have hl:=h.map.look1 k
 rw [Ps.IV hk] at hl
 unfold ptr at hl
 have hx0:w.cell? ⟨a.gx k,0,none⟩ = some (.pointer (some ⟨a.ge k,0,none⟩)):=(AA (h.pk k hk) 0).trans rfl
 have HE:=Lib.hid (h.e k hk)
 clear h hk
 go_enter Try.func54,Try.ntmps54
 go_wp2_with (go_at_call 29; (have hc:=phase_end HE.out); (with_reducible refine hc.mono ?_); clear hc; rintro e w9 ⟨rfl,rfl⟩)
 all_goals (go_ret; exact ⟨rfl,rfl⟩)
theorem Ug {w:World} {B gp:Nat} {n:Int} {a:Ad} {own:Nat → Nat → Prop} {X:Ps} {v:Value} (h:BV w B gp n a own X v) (k:Nat) (hk:X.has k):Calls Try.prog 55 #[.pointer (some ⟨gp,0,none⟩),.int .i64 k] w fun e w' => e = .returned (.int .i64 (X.pn k).e.queue.length) ∧ w = w':=by
 have hc3:w.cell? ⟨gp,3,none⟩ = some (.map (some a.r)):=(AA h.blk 3).trans rfl
 have hl:=h.map.look1 k
 rw [Ps.IV hk] at hl
 unfold ptr at hl
 have hx0:w.cell? ⟨a.gx k,0,none⟩ = some (.pointer (some ⟨a.ge k,0,none⟩)):=(AA (h.pk k hk) 0).trans rfl
 have HE:=Lib.hid (h.e k hk)
 clear h hk
 go_enter Try.func55,Try.ntmps55
 go_wp2_with (go_at_call 31; (have hc:=RU HE.out); (with_reducible refine hc.mono ?_); clear hc; rintro e w9 ⟨rfl,rfl⟩)
 all_goals (go_ret; exact ⟨rfl,rfl⟩)
theorem Rh {w:World} {B gp:Nat} {n:Int} {a:Ad} {own:Nat → Nat → Prop} {X:Ps} {v:Value} (h:BV w B gp n a own X v):Calls Try.prog 53 #[.pointer (some ⟨gp,0,none⟩)] w fun e w' => e = .returned v ∧ BV w' B gp n a own { X with evs:=[] } (.slice none 0 0) ∧ SY.R 99 w' B (own 0) v X.evs ∧ Kept w w' (fun k => k = gp) ∧ Below B w w':=by
 have hc5:w.cell? ⟨gp,5,none⟩ = some v:=(AA h.blk 5).trans rfl
 have hf5:=AB h.blk 5
 obtain ⟨A,c,hv⟩:=Kd.Am h.ev
 have H:=Lib.hid h
 clear h
 subst hv
 go_enter Try.func53,Try.ntmps53
 go_wp2_with fail
 go_ret
 have h:=H.out
 have hA:Steps.At gp w (w.setCell ⟨gp,5,none⟩ (.slice none 0 0)):=Steps.At.set (Steps.At.refl _ _) _ _
 have hk:Kept w (w.setCell ⟨gp,5,none⟩ (.slice none 0 0)) (fun k => k = gp):=⟨Nat.le_of_eq hA.size.symm,fun i _ hs => hA.block i hs⟩
 exact ⟨rfl,h.puts ⟨rfl,rfl,rfl⟩ hA (AQ h.blk 5 _ rfl) (Kd.Cc _ _ _ _ _),Kd.BI h.ev hk (fun j hj he => h.apart 0 j hj (.inl he)),hk,hA.below (Below.refl _ _) (h.low gp (.inl rfl))⟩
theorem YX:(Try.prog.info? 99).map (fun i => (i.zero,i.size,i.bytes)) = some (some (.agg #[.int .i64 0,.bool false]),2,16):=by kernel_rfl
def Mv (w:World) (B gp:Nat) (n:Int) (a:Ad) (own:Nat → Nat → Prop) (X X':Ps) (w':World):Prop :=
 ∃ own' v',BV w' B gp n a own' X' v' ∧ (∀ i k,own' i k → own i k ∨ w.heap.size ≤ k) ∧ Kept w w' (Al X a gp own) ∧ Below B w w' ∧ X'.me = X.me ∧ X'.nodes = X.nodes
theorem JL {X X':Ps} {a:Ad} {gp:Nat} {own own':Nat → Nat → Prop} {m:Nat} (hm:X'.me = X.me ∧ X'.nodes = X.nodes) (ho:∀ i k,own' i k → own i k ∨ m ≤ k):∀ k,Al X' a gp own' k → Al X a gp own k ∨ m ≤ k:=fun k hk => by
 rcases hk with hk | ⟨i,hi⟩
 ·refine .inl (.inl ?_)
  unfold Ps.fix Ps.has at hk ⊢
  rwa [hm.1,hm.2] at hk
 ·exact (ho i k hi).imp_left (fun h => .inr ⟨i,h⟩)
theorem Mv.same {w:World} {B gp:Nat} {n:Int} {a:Ad} {own:Nat → Nat → Prop} {X:Ps} {v:Value} (h:BV w B gp n a own X v):Mv w B gp n a own X X w:=⟨own,v,h,fun _ _ h => .inl h,Kept.refl _ _,Below.refl _ _,rfl,rfl⟩
theorem Hf {own:Nat → Nat → Prop} {i:Nat} {w w':World}:∀ j k,grow own i w w' j k → own j k ∨ w.heap.size ≤ k:=fun j k h => h.imp_right (fun h => h.2.1)
theorem Mv.turn {w w':World} {B gp:Nat} {n:Int} {a:Ad} {own:Nat → Nat → Prop} {X:Ps} {v:Value} (h:BV w B gp n a own X v) {k:Nat} (hx:X.has k) {L:Lk} (ht:Bg w B (own (k + 1)) (a.ge k) L w'):Mv w B gp n a own X (X.BP k L) w' :=
 ⟨_,v,h.turn hx ht,Hf,ht.2.1.mono (fun j hj => .inr ⟨_,hj⟩),ht.2.2,rfl,rfl⟩
def EO (X:Ps) (k:Nat) (up:Bool):Ps:={ X with evs:=X.evs ++ [((k:Int),up)] }
theorem Qb {w:World} {B gp:Nat} {n:Int} {a:Ad} {own:Nat → Nat → Prop} {X:Ps} {v:Value} (h:BV w B gp n a own X v) (k:Nat) (up:Bool) (hl:X.evs.length ≤ 1000000):Calls Try.prog 120 #[.pointer (some ⟨gp,0,none⟩),.int .i64 k,.bool up] w fun e w' => e = .returned (.tuple #[]) ∧ Mv w B gp n a own X (EO X k up) w':=by
 have hc5:w.cell? ⟨gp,5,none⟩ = some v:=(AA h.blk 5).trans rfl
 have H:=Lib.hid h
 have HL:=Lib.hid hl
 obtain ⟨A,c,hv⟩:=Kd.Am h.ev
 have HM:=Lib.hid (show SY.M w B (fun _ => False) ((k:Int),up) [.int .i64 k,.bool up] from ⟨[.int .i64 k],[.bool up],rfl,rfl,rfl⟩)
 subst hv
 clear h hl
 cases up
 all_goals
  go_enter Try.func120,Try.ntmps120
  go_wp2_with (first | ((with_reducible refine AV (N:=15) rfl ?_); (refine Kd.Fq (W:=w) (w0:=w) SY B rfl (.tmp 10) (.tmp 14) 96 99 (.agg #[.int .i64 0,.bool false]) 16 rfl Try.underlying96 YX rfl (by decide) (by decide) _ X.evs _ _ (fun j => own 0 j ∨ w.heap.size ≤ j) (fun _ => False) rfl rfl HM.out (fun _ h => h.elim) (fun _ hj => .inr hj) (Kd.Az H.out.ev (fun _ h => .inl h)) (Below.refl _ _) H.out.hB (by have:=HL.out; omega) ?_); (intro v1 w1 hR1 hb1 hg1 FB); (have hk1:Kept w w1 (own 0):=Kept.Fz hg1 (Kept.refl w _) (fun j hj => .inl (H.out.ev.1 j hj))); (have HN:=Lib.hid (H.out.news hk1 hR1)); (have Lr:=Lib.hid hk1); (have HB1:=Lib.hid hb1); (have hq:=(Ai H.out.blk hk1 (fun hx => H.out.apart 0 _ hx (.inl rfl)))); (have hf5:=AB hq 5); (have yj:w1.cell? ⟨gp,5,none⟩ = some (.slice A X.evs.length c):=(AA hq 5).trans rfl); (have hc4:w1.cell? ⟨gp,4,none⟩ = some (.pointer (some ⟨a.gc,0,none⟩)):=(AA hq 4).trans rfl); (obtain ⟨A1,c1,hv1⟩:=Kd.Am hR1); (rw [List.length_append,List.length_singleton] at hv1); (subst hv1); (clear hk1 hR1 hb1 hg1 FB hq hc5)) | (go_at_call 134; (have hc:=RZ HN.out.ch (k:Int)); (with_reducible refine hc.mono ?_); clear hc; rintro e w3 ⟨rfl,aJ,hK3,hB3⟩; (have yl:=Lib.hid aJ); (have VT:=Lib.hid hK3); (have HB3:=Lib.hid hB3); (clear aJ hK3 hB3)))
 ·go_end0
  have hk:=(Lr.out.mono (S':=Al X a gp own) (fun j hj => .inr ⟨0,hj⟩)).setCell (p:=⟨gp,5,none⟩) (.inl (.inl (.inl rfl))) (.slice A1 (X.evs.length + 1) c1)
  refine ⟨rfl,_,_,HN.out.XO VT.out (yl.out.mono (fun _ h => .inl h)),fun i j hj => (Hf i j hj).elim (Hf i j) (fun h => .inr (Nat.le_trans hk.1 h)),hk.DT VT.out (fun j hj => (Hf 1 j hj).imp_left (fun h => .inr ⟨1,h⟩)),(HB1.out.setCell (p:=⟨gp,5,none⟩) (H.out.low gp (.inl rfl)) _).trans HB3.out,rfl,rfl⟩
 ·go_end0
  exact ⟨rfl,_,_,HN.out,Hf,(Lr.out.mono (fun j hj => .inr ⟨0,hj⟩)).setCell (p:=⟨gp,5,none⟩) (.inl (.inl (.inl rfl))) _,HB1.out.setCell (p:=⟨gp,5,none⟩) (H.out.low gp (.inl rfl)) _,rfl,rfl⟩
def GY (X:Ps) (k:Nat):Ps:=(if (X.pn k).e.phase = 2 then EO X k false else X).BP k (ET (FV (X.pn k).e))
theorem Kw (X:Ps) (k:Nat) (L M:Lk):(X.BP k L).BP k M = X.BP k M:=by
 unfold Ps.BP Ps.set
 congr 1
 funext j
 by_cases h:j = k
 ·simp [h]
 ·simp [h]
theorem Uh {w:World} {B gp:Nat} {n:Int} {a:Ad} {own:Nat → Nat → Prop} {X:Ps} {v:Value} (h:BV w B gp n a own X v) (k:Nat) (hx:X.has k) (hok:(X.pn k).e.Ok) (hl:X.evs.length ≤ 1000000):Calls Try.prog 93 #[.pointer (some ⟨gp,0,none⟩),.int .i64 k,.pointer (some ⟨a.gx k,0,none⟩)] w fun e w' => e = .returned (.tuple #[]) ∧ Mv w B gp n a own X (GY X k) w':=by
 have hc0:w.cell? ⟨a.gx k,0,none⟩ = some (.pointer (some ⟨a.ge k,0,none⟩)):=(AA (h.pk k hx) 0).trans rfl
 have ZK:=Lib.hid (phase_end (h.e k hx))
 have HT:=Lib.hid (Qb h k false hl)
 have HS:=Lib.hid (Mv.same h)
 have HX:=Lib.hid hx
 have XP:=Lib.hid hok
 clear h hx hok hl
 have main:∀ (Y:Ps) (w1:World) (L0:Lk),Mv w B gp n a own X Y w1 → (Y.pn k).e = L0 → Y.me = X.me ∧ Y.nodes = X.nodes → ∃ Dw v1,BV w1 B gp n a Dw Y v1 ∧ Y.has k ∧ w1.cell? ⟨a.gx k,0,none⟩ = some (.pointer (some ⟨a.ge k,0,none⟩)) ∧ Lk.End w1 B (Dw (k + 1)) (a.ge k) L0 ∧ B ≤ w1.heap.size ∧ ∀ w2 L,Bg w1 B (Dw (k + 1)) (a.ge k) L w2 → Mv w B gp n a own X (Y.BP k L) w2:=fun Y w1 L0 hM hp hm => by
  obtain ⟨Dw,v1,h1,h2,h3,h4,h5⟩:=hM
  have hy:Y.has k:=by unfold Ps.has; rw [hm.1,hm.2]; exact HX.out
  exact ⟨Dw,v1,h1,hy,(AA (h1.pk k hy) 0).trans rfl,hp ▸ h1.e k hy,h1.hB,fun w2 L ht => by
   obtain ⟨KX,v2,g1,g2,g3,g4,g5⟩:=Mv.turn h1 hy ht
   exact ⟨KX,v2,g1,fun i j hj => (g2 i j hj).elim (h2 i j) (fun h => .inr (Nat.le_trans h3.1 h)),h3.DT g3 (JL h5 h2),h4.trans g4,g5.1.trans h5.1,g5.2.trans h5.2⟩⟩
 have I5:=Lib.hid main
 clear main
 by_cases hp:(X.pn k).e.phase = 2
 ·have hq:((X.pn k).e.phase == 2) = true:=by simp [hp]
  have HP:=Lib.hid hp
  clear hp
  go_enter Try.func93,Try.ntmps93
  go_wp2_with (first | (go_at_call 120; (have hc:=HT.out); (with_reducible refine hc.mono ?_); clear hc; rintro e w1 ⟨rfl,hM⟩; (obtain ⟨Dw,v1,hP1,hy1,hx1,hE1,hB1,hK1⟩:=I5.out _ _ (X.pn k).e hM rfl ⟨rfl,rfl⟩); (have kT:=Lib.hid hE1); (have HB1:=Lib.hid hB1); (have Lr:=Lib.hid hK1); (clear hM hP1 hy1 hE1 hB1 hK1)) | (go_at_call 78; (have hc:=NS kT.out); (with_reducible refine hc.mono ?_); clear hc; rintro e w2 ⟨rfl,ht⟩; (obtain ⟨KX,v2,hP2,hy2,hx2,hE2,hB2,hK2⟩:=I5.out _ _ (FV (X.pn k).e) (Lr.out _ _ ht) (congrArg Pn.e (Ps.CU _ _ _)) ⟨rfl,rfl⟩); (have HE2:=Lib.hid hE2); (have HB2:=Lib.hid hB2); (have WM:=Lib.hid hK2); (clear ht hP2 hy2 hE2 hB2 hK2)) | (go_at_call 27; (have hc:=Jy HE2.out HB2.out (L6 XP.out)); (with_reducible refine hc.mono ?_); clear hc; rintro e w3 ⟨rfl,ht⟩; (have HF:=Lib.hid (WM.out _ _ ht)); (clear ht)) | (go_at_call 29; (have hc:=ZK.out); (with_reducible refine hc.mono ?_); clear hc; rintro e w9 ⟨rfl,rfl⟩))
  go_end0
  refine ⟨rfl,?_⟩
  have h:=HF.out
  rw [Kw] at h
  unfold GY
  rw [if_pos HP.out]
  exact h
 ·have hq:((X.pn k).e.phase == 2) = false:=by simp [hp]
  have HP:=Lib.hid hp
  clear hp
  obtain ⟨Dw,v1,hP1,hy1,hx1,hE1,hB1,hK1⟩:=I5.out X w (X.pn k).e HS.out rfl ⟨rfl,rfl⟩
  have kT:=Lib.hid hE1
  have Lr:=Lib.hid hK1
  clear hP1 hy1 hE1 hB1 hK1
  go_enter Try.func93,Try.ntmps93
  go_wp2_with (first | (go_at_call 78; (have hc:=NS kT.out); (with_reducible refine hc.mono ?_); clear hc; rintro e w2 ⟨rfl,ht⟩; (obtain ⟨KX,v2,hP2,hy2,hx2,hE2,hB2,hK2⟩:=I5.out _ _ (FV (X.pn k).e) (Lr.out _ _ ht) (congrArg Pn.e (Ps.CU _ _ _)) ⟨rfl,rfl⟩); (have HE2:=Lib.hid hE2); (have HB2:=Lib.hid hB2); (have WM:=Lib.hid hK2); (clear ht hP2 hy2 hE2 hB2 hK2)) | (go_at_call 27; (have hc:=Jy HE2.out HB2.out (L6 XP.out)); (with_reducible refine hc.mono ?_); clear hc; rintro e w3 ⟨rfl,ht⟩; (have HF:=Lib.hid (WM.out _ _ ht)); (clear ht)) | (go_at_call 29; (have hc:=ZK.out); (with_reducible refine hc.mono ?_); clear hc; rintro e w9 ⟨rfl,rfl⟩))
  go_end0
  refine ⟨rfl,?_⟩
  have h:=HF.out
  rw [Kw] at h
  unfold GY
  rw [if_neg HP.out]
  exact h
def J6 (X:Ps) (k:Nat) (body:List Int):Int:=if (X.pn k).e.phase = 2 then (if Eg (X.pn k).e body.length = 113 then 142 else Eg (X.pn k).e body.length) else 141
def JM (X:Ps) (k:Nat) (body:List Int):Ps:=if (X.pn k).e.phase = 2 then (if Eg (X.pn k).e body.length = 113 then GY X k else X.BP k (F8 (X.pn k).e body)) else X
theorem Ky (X:Ps) (k:Nat):X.BP k (X.pn k).e = X:=by
 unfold Ps.BP Ps.set
 have:(fun j => if j = k then { X.pn k with e:=(X.pn k).e } else X.pn j) = X.pn:=by
  funext j
  by_cases h:j = k
  ·rw [if_pos h,h]
  ·rw [if_neg h]
 rw [this]
theorem Mv.at_ {w w1:World} {B gp:Nat} {n:Int} {a:Ad} {own:Nat → Nat → Prop} {X Y:Ps} (hM:Mv w B gp n a own X Y w1) {k:Nat} (hx:X.has k):∃ Dw v1,BV w1 B gp n a Dw Y v1 ∧ Y.has k ∧ w1.cell? ⟨a.gx k,0,none⟩ = some (.pointer (some ⟨a.ge k,0,none⟩)) ∧ ∀ Z w2,Mv w1 B gp n a Dw Y Z w2 → Mv w B gp n a own X Z w2:=by
 obtain ⟨Dw,v1,h1,h2,h3,h4,h5⟩:=hM
 have hy:Y.has k:=by unfold Ps.has; rw [h5.1,h5.2]; exact hx
 exact ⟨Dw,v1,h1,hy,(AA (h1.pk k hy) 0).trans rfl,fun Z w2 ht => by
  obtain ⟨KX,v2,g1,g2,g3,g4,g5⟩:=ht
  exact ⟨KX,v2,g1,fun i j hj => (g2 i j hj).elim (h2 i j) (fun h => .inr (Nat.le_trans h3.1 h)),h3.DT g3 (JL h5 h2),h4.trans g4,g5.1.trans h5.1,g5.2.trans h5.2⟩⟩
theorem L9 {w:World} {B gp:Nat} {n:Int} {a:Ad} {own:Nat → Nat → Prop} {X:Ps} {v:Value} (h:BV w B gp n a own X v) (k:Nat) (hx:X.has k) (hok:(X.pn k).e.Ok) (hl:X.evs.length ≤ 1000000) (body:List Int) (Ab:Option Addr) (cb:Nat) (hC:(Kd.int .u8).C w Ab body.length body) :
  Calls Try.prog 51 #[.pointer (some ⟨gp,0,none⟩),.int .i64 k,.slice Ab body.length cb] w fun e w' => e = .returned (.int .i64 (J6 X k body)) ∧ Mv w B gp n a own X (JM X k body) w':=by
 have hc3:w.cell? ⟨gp,3,none⟩ = some (.map (some a.r)):=(AA h.blk 3).trans rfl
 have hlk:=h.map.look k
 rw [Ps.IV hx] at hlk
 simp only [ptr,Option.isSome] at hlk
 have hc0:w.cell? ⟨a.gx k,0,none⟩ = some (.pointer (some ⟨a.ge k,0,none⟩)):=(AA (h.pk k hx) 0).trans rfl
 have ZK:=Lib.hid (phase_end (h.e k hx))
 have qG:=Lib.hid (UX (h.e k hx) h.hB hok body Ab cb hC)
 have H:=Lib.hid h
 have HX:=Lib.hid hx
 have XP:=Lib.hid hok
 have HL:=Lib.hid hl
 generalize hnb:body.length = nb at *
 have XQ:=Lib.hid hnb
 clear h hx hok hl hC hnb
 by_cases hp:(X.pn k).e.phase = 2
 ·have hq:((X.pn k).e.phase != 2) = false:=by simp [hp]
  have HP:=Lib.hid hp
  clear hp
  by_cases hs:Eg (X.pn k).e nb = 113
  ·have JW:(Eg (X.pn k).e nb == 113) = true:=by simp [hs]
   have HS:=Lib.hid hs
   have hsl:F8 (X.pn k).e body = (X.pn k).e:=by unfold F8; rw [XQ.out,hs]; rfl
   have qH:=Lib.hid hsl
   clear hs hsl
   go_enter Try.func51,Try.ntmps51
   go_wp2_with (first | (go_at_call 29; (have hc:=ZK.out); (with_reducible refine hc.mono ?_); clear hc; rintro e w9 ⟨rfl,rfl⟩) | (go_at_call 30; (have hc:=qG.out); (with_reducible refine hc.mono ?_); clear hc; rintro e w2 ⟨rfl,ht⟩; (have HM:=Lib.hid (Mv.turn H.out HX.out ht)); (clear ht); (obtain ⟨Dw,v1,hP1,hy1,hx1,hK1⟩:=HM.out.at_ HX.out); (have HP1:=Lib.hid hP1); (have Lr:=Lib.hid hK1); (have qI:=Uh hP1 k hy1 (by rw [qH.out,Ky]; exact XP.out) HL.out); (have yt:=Lib.hid qI); (clear hP1 hy1 hK1 qI)) | (go_at_call 93; (have hc:=yt.out); (with_reducible refine hc.mono ?_); clear hc; rintro e w3 ⟨rfl,JV⟩; (have OI:=Lib.hid (Lr.out _ _ JV)); (clear JV)))
   go_ret
   unfold J6 JM
   rw [if_pos HP.out,if_pos HP.out,XQ.out,if_pos HS.out,if_pos HS.out]
   have hm:=OI.out
   rw [qH.out,Ky] at hm
   exact ⟨rfl,hm⟩
  ·have JW:(Eg (X.pn k).e nb == 113) = false:=by simp [hs]
   have HS:=Lib.hid hs
   clear hs
   go_enter Try.func51,Try.ntmps51
   go_wp2_with (first | (go_at_call 29; (have hc:=ZK.out); (with_reducible refine hc.mono ?_); clear hc; rintro e w9 ⟨rfl,rfl⟩) | (go_at_call 30; (have hc:=qG.out); (with_reducible refine hc.mono ?_); clear hc; rintro e w2 ⟨rfl,ht⟩; (have HM:=Lib.hid (Mv.turn H.out HX.out ht)); (clear ht)))
   go_ret
   unfold J6 JM
   rw [if_pos HP.out,if_pos HP.out,XQ.out,if_neg HS.out,if_neg HS.out]
   exact ⟨rfl,HM.out⟩
 ·have hq:((X.pn k).e.phase != 2) = true:=by simp [hp]
  have HP:=Lib.hid hp
  clear hp
  go_enter Try.func51,Try.ntmps51
  go_wp2_with (go_at_call 29; (have hc:=ZK.out); (with_reducible refine hc.mono ?_); clear hc; rintro e w9 ⟨rfl,rfl⟩)
  go_ret
  unfold J6 JM
  rw [if_neg HP.out,if_neg HP.out]
  exact ⟨rfl,Mv.same H.out⟩
end Go.Proofs.Ytnkkgofpifhoeaa.Pe
end
section
namespace Go.Proofs.Ytnkkgofpifhoeaa.Lk
open Go.RowKit Go.Proofs.Ytnkkgofpifhoeaa.Base Go.Proofs.Ytnkkgofpifhoeaa.Pk Go.Proofs.YtnkkgofpifhoeaaW.PrintWords Go.Proofs.YtnkkgofpifhoeaaW.PrintLast
def Ir:BJ:=⟨0,0,0,0,0,0,0,0,0,0,[]⟩
theorem Ui {w:World} {B:Nat} {ZJ:Nat → Prop} {A:Option Addr} {n c:Nat} {ps:List BJ} (h:pkt.R 27 w B ZJ (.slice A n c) ps) (i:Nat) (hi:i < n) :
  ∃ gx cs,A = some ⟨gx,0,none⟩ ∧ pkt.M w B ZJ (ps.getD i Ir) cs ∧ w.rangeAt gx (i * 10) cs ∧ cs.length = 10 ∧ n = ps.length:=by
 obtain ⟨hn,hnc,hC⟩:=Kd.D9 h
 obtain ⟨gx,cap,he,_⟩:=Kd.OO h (by omega)
 injection he with h1 h2 h3
 subst h1
 obtain ⟨cs,hl,hM,hc,_⟩:=Kd.OU h Ir (i:Int) (by omega) (by omega)
 refine ⟨gx,cs,rfl,pkt.CX (fun k hk => hk.1) hM,?_,hl,hn⟩
 intro j u hu
 have:=hc j u hu
 simpa [X7] using this
def feed (AL:Int) (L:Lk) (ps:List BJ):Lk:=ps.foldl (fun L p => (BM L AL p).1) L
def WN (L:Lk):Lk:={ L with out:=[] }
theorem WO {L:Lk} (h:L.Ok):(WN L).Ok:=⟨h.own,h.phase,h.token,h.AL,h.yours,h.queue,h.rows,h.sent,h.base,h.expected,h.idle,Nat.zero_le _⟩
def XR (A D:Lk):Lk × Lk:=(feed 1 (WN A) (feed 1 D A.out).out,WN (feed 1 D A.out))
end Go.Proofs.Ytnkkgofpifhoeaa.Lk
end
section
namespace Go.Proofs.Ytnkkgofpifhoeaa.Pe
open Go.Proofs.Ytnkkgofpifhoeaa.Pk Go.RowKit Go.Proofs.Ytnkkgofpifhoeaa.Base Go.Proofs.Ytnkkgofpifhoeaa.Num Go.Proofs.Ytnkkgofpifhoeaa.OG Go.Proofs.YtnkkgofpifhoeaaW.PrintWords
theorem WQ {p:Lk.BJ} (h:JX p) (A:Option Addr) (c:Nat) (w:World) (hC:(Kd.int .u8).C w A p.body.length p.body) :
  Calls Try.prog 19 #[.agg #[.int .i64 p.kind,.int .u32 p.mine,.int .u32 p.AL,.int .u32 p.yours,.int .u32 p.seq,.int .u32 p.AX,.int .u32 p.stamp,.int .u32 p.echo,.complex .f64 p.zr p.zi,.slice A p.body.length c]] w fun e w' => ∃ v,e = .returned (.tuple #[v,.int .i64 0]) ∧ (Kd.int .u8).R 5 w' w.heap.size (fun _ => True) v (Ej p) ∧ Below w.heap.size w w':=by
 have hk:=QU h.good
 have hr:=h.good.YM
 have hl:=h.good.len
 have hc:=h.good.check
 obtain ⟨k,m,bt,y,sq,ak,st,ec,zr,zi,bd⟩:=p
 simp only at hk hl hC hc
 rcases hk with rfl | rfl | rfl | rfl
 ·exact o5.Tj m bt y sq ak st ec zr zi A c bd w hC (by omega) hc hr.zr hr.zi
 ·exact o7.Tm m bt y sq ak st ec zr zi A c bd w hC (by omega) hc hr.zr hr.zi
 ·exact o8.Tn m bt y sq ak st ec zr zi A c bd w hC (by omega) hc hr.zr hr.zi
 ·exact o9.Tq m bt y sq ak st ec zr zi A c bd w hC (by omega) hc hr.zr hr.zi
def MH:Kd (Int × List Int):=Kd.pair (Kd.int .i64) Lk.bytes
theorem Uj {w:World} {base:Nat} {ok:Nat → Prop} {x:Int × List Int} {cs:List Value}:MH.M w base ok x cs ↔ ∃ b,cs = [.int .i64 x.1,b] ∧ (Kd.int .u8).R 5 w base ok b x.2:=by
 constructor
 ·rintro ⟨_,_,rfl,rfl,b,rfl,h⟩
  exact ⟨b,rfl,h⟩
 ·rintro ⟨b,rfl,h⟩
  exact ⟨_,_,rfl,rfl,b,rfl,h⟩
instance (X:Ps) (k:Nat):Decidable (X.has k):=inferInstanceAs (Decidable (_ ∧ _ ∧ _))
def Fg (k:Nat) (ps:List Lk.BJ):List (Int × List Int):=ps.map fun p => ((k:Int),Ej p)
def DC (X:Ps):Nat → List (Int × List Int)
 | 0 => []
 | i + 1 => DC X i ++ (if X.has (i + 1) then Fg (i + 1) (X.pn (i + 1)).e.out else [])
def Be (X:Ps):Nat → Ps
 | 0 => X
 | i + 1 => if X.has (i + 1) then (Be X i).BP (i + 1) { (X.pn (i + 1)).e with out:=[] } else Be X i
theorem BR (X:Ps):∀ i,(Be X i).ticks = X.ticks ∧ (Be X i).me = X.me ∧ (Be X i).nodes = X.nodes ∧ (Be X i).evs = X.evs
 | 0 => ⟨rfl,rfl,rfl,rfl⟩
 | i + 1 => by
  unfold Be
  split
  ·exact BR X i
  ·exact BR X i
theorem GZ (X:Ps):∀ i k,i < k → (Be X i).pn k = X.pn k
 | 0,_,_ => rfl
 | i + 1,k,h => by
  unfold Be
  split
  ·unfold Ps.BP
   rw [Ps.EL _ (by omega)]
   exact GZ X i k (by omega)
  ·exact GZ X i k (by omega)
theorem Hg (X:Ps):∀ i k,k ≤ i → X.has k → (Be X i).pn k = { X.pn k with e:={ (X.pn k).e with out:=[] } }
 | 0,k,h,hx => by have:=hx.1; omega
 | i + 1,k,h,hx => by
  by_cases hk:k = i + 1
  ·subst hk
   unfold Be
   rw [if_pos hx]
   unfold Ps.BP
   rw [Ps.CU,GZ X i _ (by omega)]
  ·unfold Be
   split
   ·unfold Ps.BP
    rw [Ps.EL _ hk]
    exact Hg X i k (by omega) hx
   ·exact Hg X i k (by omega) hx
theorem BV.aK {w w':World} {B gp:Nat} {n:Int} {a:Ad} {own:Nat → Nat → Prop} {X:Ps} {v:Value} (h:BV w B gp n a own X v) {k:Nat} (hx:X.has k) {L:Lk.Lk} (ht:Lk.Bg w B (own (k + 1)) (a.ge k) L w') (hs:w'.heap.size = w.heap.size):BV w' B gp n a own (X.BP k L) v:=by
 have h1:=h.turn hx ht
 have he:grow own (k + 1) w w' = own:=by
  funext i j
  unfold grow
  exact propext ⟨fun hh => hh.elim id (fun hn => by omega),.inl⟩
 rwa [he] at h1
end Go.Proofs.Ytnkkgofpifhoeaa.Pe
end
