/- What the laws of a pair are proved with: links and pairs in memory, what their methods do, what a pair keeps to (part 3). -/
import Derived.Test.YtnkkgofpifhoeaaPG02
import Derived.Laws.Tables
import Derived.Laws.ResultCell
import Derived.Deep.LoopGhost
import Derived.Laws.BitsLemmas
set_option linter.unusedSimpArgs false
set_option linter.unusedVariables false
set_option maxRecDepth 100000
set_option maxHeartbeats 16000000
section
namespace Go.Proofs.YtnkkgofpifhoeaaW.PrintWords
open Go.RowKit
namespace Kd
section
variable {α:Type} {d:Kd α} {e base g o n cap:Nat} {ok DI:Nat → Prop} {w W:World} {v:Value} {xs:List α}
theorem Xn (h:d.Q e w base ok v xs) (hp:0 < xs.length):∃ g o cap,v = .slice (some ⟨g,o,none⟩) xs.length cap ∧ base ≤ g ∧ g < w.heap.size ∧ ∃ cells,w.heap[g]? = some (.cells cells e (0,0)):=by
 obtain ⟨h0,inner,hq,hr⟩:=h
 rcases hq.2 with ⟨h1,_⟩ | ⟨g,off,cap,cur,rfl,hb,hh,r⟩
 ·omega
 ·exact ⟨g,off * d.sz,cap,rfl,hb,AU hh,cur,hh⟩
theorem Xo (h:d.Q e W base ok (.slice (some ⟨g,o,none⟩) n cap) xs) (z:α) (i:Int) (h0:0 ≤ i) (h1:i < n) :
  ∃ c,c.length = d.sz ∧ d.M W base (fun k => ok k ∧ k ≠ g) (xs.getD i.toNat z) c ∧ (∀ j u,c[j]? = some u → W.cell? ⟨g,o + i.toNat * d.sz + j,none⟩ = some u) ∧ ∀ j,W.frozen? ⟨g,o + i.toNat * d.sz + j,none⟩ = false:=by
 obtain ⟨hn,hnc,hC⟩:=MZ h
 obtain ⟨_,inner,ho,hr⟩:=h
 have hil:i.toNat < xs.length:=by omega
 have hseg:i.toNat * d.sz + d.sz ≤ inner.length:=by rw [hr.1,← Nat.succ_mul]; exact Nat.mul_le_mul_right _ hil
 have hM:=hr.2 i.toNat _ (List.getElem?_eq_getElem hil)
 refine ⟨(inner.drop (i.toNat * d.sz)).take d.sz,by rw [List.length_take,List.length_drop]; omega,?_,fun j u hu => ?_,fun j => ?_⟩
 ·rw [List.getD_eq_getElem?_getD,List.getElem?_eq_getElem hil]
  exact d.CX (fun k hk => ⟨hk.1,fun he => hk.2 (by rw [he]; simp [Value.ownBlock])⟩) hM
 ·rw [List.getElem?_take] at hu
  split at hu
  ·rw [List.getElem?_drop] at hu
   subst hn
   obtain ⟨ad,he,hc⟩:=QE ho (by omega)
   injection he with he
   subst he
   have:=hc _ u hu
   rwa [Lc,← Nat.add_assoc] at this
  ·cases hu
 ·obtain ⟨_,cells,hc⟩:=Jc ho g (by simp [Value.ownBlock])
  exact AB hc _
end
end Kd
namespace Kd
theorem Q3 {w w1:World} (hb:∀ k,k < w.heap.size → w1.heap[k]? = w.heap[k]?) {a:Addr} {v:Value} (h:w.cell? a = some v):w1.cell? a = some v:=by
 have:=hb a.block (World.block_lt_of_cell? w a h)
 simpa [World.cell?,this] using h
end Kd
def Kept (w W:World) (S:Nat → Prop):Prop:=w.heap.size ≤ W.heap.size ∧ ∀ i,i < w.heap.size → ¬ S i → W.heap[i]? = w.heap[i]?
section
variable {w W W2:World} {S S2 S':Nat → Prop}
theorem Kept.refl (w:World) (S:Nat → Prop):Kept w w S:=⟨Nat.le_refl _,fun _ _ _ => rfl⟩
theorem Kept.of_below (h:Below w.heap.size w W) (S:Nat → Prop):Kept w W S:=⟨h.size,fun i hi _ => h.block i hi⟩
theorem Kept.mono (h:Kept w W S) (hs:∀ k,S k → S' k):Kept w W S':=⟨h.1,fun i hi hn => h.2 i hi (fun hk => hn (hs i hk))⟩
theorem Kept.DT (h:Kept w W S) (k:Kept W W2 S2) (hs:∀ k,S2 k → S k ∨ w.heap.size ≤ k):Kept w W2 S :=
 ⟨Nat.le_trans h.1 k.1,fun i hi hn => (k.2 i (Nat.lt_of_lt_of_le hi h.1) (fun h2 => (hs i h2).elim hn (fun h3 => by omega))).trans (h.2 i hi hn)⟩
theorem Kept.Fz {row:Option Nat} (hg:W.grownBy W2 row) (h:Kept w W S) (hr:∀ k,row = some k → S k ∨ w.heap.size ≤ k):Kept w W2 S :=
 h.DT (S2:=fun k => row = some k) ⟨hg.size,fun i hi hn => hg.block i hi (fun he => hn he.symm)⟩ hr
theorem Kept.below (h:Kept w W S) (hb:Below W.heap.size W W2):Kept w W2 S:=h.DT (Kept.of_below hb (fun _ => False)) (fun _ hk => hk.elim)
theorem Kept.setCell (h:Kept w W S) {p:Addr} (hp:S p.block ∨ w.heap.size ≤ p.block) (u:Value):Kept w (W.setCell p u) S :=
 h.DT (S2:=fun k => k = p.block) ⟨by simp [World.setCell],fun i _ hn => Below.heap_setCell W p u i hn⟩ (fun k hk => by rw [hk]; exact hp)
theorem Ai {g:Nat} {o:Obj} (hb:W.heap[g]? = some o) (hk:Kept W W2 S) (hne:¬ S g):W2.heap[g]? = some o:=(hk.2 g (AU hb) hne).trans hb
end
namespace Kd
section
variable {α:Type} {d:Kd α} {e base n c:Nat} {ok oki S S2:Nat → Prop} {w w0 W W1 W2:World} {v:Value} {A:Option Addr} {xs:List α} {i:Int} {cs:List Value}
theorem BI (h:d.R e W base ok v xs) (hk:Kept W W2 S) (hne:∀ k,ok k → ¬ S k):d.R e W2 base ok v xs:=Jn h (fun k ho hlt => hk.2 k hlt (hne k ho))
theorem Le (h:d.Q e W base ok v xs) (hk:Kept W W2 S) (hne:∀ k,ok k → ¬ S k):d.Q e W2 base ok v xs:=TP h (fun k ho hlt => hk.2 k hlt (hne k ho))
theorem Xp {x:α} (h:d.M W base ok x cs) (hk:Kept W W2 S) (hne:∀ k,ok k → ¬ S k):d.M W2 base ok x cs:=TJ h (fun k ho hlt => hk.2 k hlt (hne k ho))
end
end Kd
section
variable {P:Program} {ops:Array Oper} {rest:List Oper} {o:Oper} {a:Act} {Q:Exit → Act → World → Prop} {W:World}
theorem Lh {b:Builtin} {xs:Array Operand} {ts:Array TypeId} (_ho:o.op = .call { callee:=.builtin b,args:=xs,argTypes:=ts }) (h:wpList P ops Q (o :: rest) a W):wpList P ops Q (o :: rest) a W:=h
end
def shl (k:IntKind) (x y:Int):Int:=k.wrap (x * 2 ^ min y.toNat k.bits)
def shr (k:IntKind) (x y:Int):Int:=x / 2 ^ min y.toNat k.bits
theorem ZF {k:IntKind} {x y j:Int} (h:shl k x y = j) (hy:y ≤ k.bits):k.wrap (x * 2 ^ y.toNat) = j:=by rw [← h]; unfold shl; rw [Nat.min_eq_left (by omega)]
theorem Q4 {k:IntKind} {x y j:Int} (h:shr k x y = j) (hy:y ≤ k.bits):x / 2 ^ y.toNat = j:=by rw [← h]; unfold shr; rw [Nat.min_eq_left (by omega)]
namespace Kd
section
variable {α:Type} {d:Kd α} {e base b b' g N:Nat} {ok ok1:Nat → Prop} {W W2 w1:World} {u v:Value} {xs ys:List α} {S:Nat → Prop}
theorem jh (h:d.Q e W base ok v xs):∀ k,v.ownBlock = some k → ok k:=h.1
end
end Kd
end Go.Proofs.YtnkkgofpifhoeaaW.PrintWords
end
section
namespace Go.Proofs.Ytnkkgofpifhoeaa.Steps
open Go.RowKit Go.Proofs.YtnkkgofpifhoeaaW.PrintWords Go.Proofs.YtnkkgofpifhoeaaW.PrintLast
structure At (g:Nat) (w w':World):Prop where
 os:w'.os = w.os
 tape:w'.tape = w.tape
 output:w'.output = w.output
 size:w'.heap.size = w.heap.size
 block:∀ k,k ≠ g → w'.heap[k]? = w.heap[k]?
theorem At.refl (g:Nat) (w:World):At g w w:=⟨rfl,rfl,rfl,rfl,fun _ _ => rfl⟩
theorem At.set {g:Nat} {w w':World} (h:At g w w') (i:Nat) (v:Value):At g w (w'.setCell ⟨g,i,none⟩ v) :=
 ⟨h.os,h.tape,h.output,by simp [World.setCell,h.size],fun k hk => (Below.heap_setCell _ _ _ _ hk).trans (h.block k hk)⟩
theorem At.drewN {g:Nat} {w w':World} (h:At g w w') (n:Nat):At g w (w'.drewN n):=⟨h.os,h.tape,h.output,h.size,h.block⟩
theorem At.below {g B:Nat} {a w w':World} (h:At g w w') (hb:Below B a w) (hg:B ≤ g):Below B a w' :=
 hb.trans ⟨h.os,h.tape,h.output,by rw [h.size]; exact Nat.le_refl _,fun k hk => h.block k (by omega)⟩
theorem At.cell {g:Nat} {w w':World} (h:At g w w') {a:Addr} (ha:a.block ≠ g):w'.cell? a = w.cell? a:=World.cell?_of_block (w:=w) (h.block a.block ha)
section
variable {P:Program} {ops:Array Oper} {Q:Exit → Act → World → Prop}
theorem BO (F:World → Prop) {oi:Oper} {a:Act} {w:World} {K:Act → World → Prop} (hw:Region.wanted oi (yielded ops a.tmps) = true) (hN:oi.dst = none)
  (h:∃ w1,(execOp a.eval oi).run P w = .ok .skip w1 ∧ F w1) (k:∀ w1,F w1 → K a w1):if Region.wanted oi (yielded ops a.tmps) = true then Oper.wp P oi a w K Q else K (a.put none undef) w:=by
 obtain ⟨w1,h1,h2⟩:=h
 exact ZX hw hN h1 (k w1 h2)
variable {rest:List Oper} {o:Oper} {a:Act} {W:World}
theorem AY (F:World → Prop) (hgd:o.guard = none) (hN:o.dst = none) (h:∃ w1,(execOp a.eval o).run P W = .ok .skip w1 ∧ F w1) (k:∀ w1,F w1 → wpList P ops Q rest a w1):wpList P ops Q (o :: rest) a W:=by
 obtain ⟨w1,h1,h2⟩:=h
 refine wpList_plain hgd fun K hK => ?_
 unfold Oper.wp
 rw [h1]
 show K (a.put o.dst undef) w1
 rw [hN]
 exact hK _ _ (k w1 h2)
theorem Jd (F:Value → World → Prop) (hgd:o.guard = none) (h:∃ v w1,(execOp a.eval o).run P W = .ok (.value v) w1 ∧ F v w1) (k:∀ v w1,F v w1 → wpList P ops Q rest (a.put o.dst v) w1):wpList P ops Q (o :: rest) a W:=by
 obtain ⟨v,w1,h1,h2⟩:=h
 exact Kd.Ko hgd h1 (k v w1 h2)
theorem Jq {w:World} {g:Nat} {old cs:Array Value} {t:TypeId} {fr:Nat × Nat} (h:w.heap[g]? = some (.cells old t fr)):(w.setRow g cs).heap[g]? = some (.cells cs t fr):=by
 unfold World.setRow
 simp only [Array.getElem?_modify,if_true,h,Option.map_some]
theorem Kq (g:Nat) (w:World) (cs:Array Value):At g w (w.setRow g cs) :=
 ⟨rfl,rfl,rfl,by simp [World.setRow],fun k hk => by
  have:g ≠ k:=fun e => hk e.symm
  simp [World.setRow,Array.getElem?_modify,this]⟩
theorem Ae (hgd:o.guard = none) (hN:o.dst = none) (ty:TypeId) (x y:Operand) (ho:o.op = .store ty x y) (g:Nat) (cells:Array Value) (hx:a.eval x = .pointer (some ⟨g,0,none⟩)) (hy:a.eval y = .agg cells)
  (t:TypeId) (old:Array Value) (hg:W.heap[g]? = some (.cells old t (0,0))) (hi:(P.info? ty).map (·.size) = some cells.size) (hold:old.size = cells.size) (h1:cells.all (·.oneCell') = true)
  (k:∀ w1,w1.heap[g]? = some (.cells cells t (0,0)) → At g W w1 → wpList P ops Q rest a w1):wpList P ops Q (o :: rest) a W :=
 wpList_store_row hgd ty x y ho g cells hx hy t old hg hi hold h1 (by
  rw [hN]
  exact k _ (Jq hg) (Kq g W cells))
end
theorem Ag {P:Program} {fn:Func} {p u:Tmp} {ty:TypeId} {w:World} {v x:Value} (h:fn.results = #[.cell p ty,.tmp u]) (tmps:Array Value) (g:Nat) (hp:tmps.getD p undef = .pointer (some ⟨g,0,none⟩)) (hx:tmps.getD u undef = x)
  (hl:(loadVar ty ⟨g,0,none⟩).run P w = .ok v w):(results fn tmps).run P w = .ok (.tuple #[v,x]) w:=by
 rw [results_cell_tmp h,hp,hx]
 simp [asAddr,hl]
end Go.Proofs.Ytnkkgofpifhoeaa.Steps
end
section
namespace Go.Proofs.YtnkkgofpifhoeaaW.PrintLast
section
variable {P:Program} {ops:Array Oper} {Q:Exit → Act → World → Prop} {md:Region.Mode} {S:World → Prop} {ds:List Nat} {oi:Oper} {v:Value} {fuel:Nat} {l:Array Bool} {a a':Act} {w:World}
theorem pu (i n:Nat) (l':Array Bool) (h:Aa P md ops Q S ds fuel l' a' w) (hi:ops[i]? = some oi:=by rfl) (hN:oi.dst = some n:=by rfl) (hc:Xg md ops l l' i = true:=by kernel_rfl) (hQ:∀ c a w,Q (.panic c) (a.put oi.dst v) w → Q (.panic c) a w:=by exact fun _ _ _ h => h)
  (hw:Region.wanted oi (yielded ops a.tmps) = true:=by rfl) (hy:∀ w,(execOp a.eval oi).run P w = .ok (.value v) w:=by intro w'; go_simp; first | with_reducible rfl | rfl) (ha:a.put (some n) v = a':=by simp only [Act.put,sA,sZ,sS]; rfl):Aa P md ops Q S ds (fuel + 1) l a w:=ZV l' hi hN hc hQ (Or.inl ⟨hw,hy⟩) ha h
theorem tk (i n:Nat) (l':Array Bool) (hS:S w) (h:Aa P md ops Q S ds fuel l' a' w) (hi:ops[i]? = some oi:=by rfl) (hN:oi.dst = some n:=by rfl) (hc:takeB md ops ds l l' i = true:=by kernel_rfl) (hQ:∀ c a w,Q (.panic c) (a.put oi.dst v) w → Q (.panic c) a w:=by exact fun _ _ _ h => h)
  (hw:Region.wanted oi (yielded ops a.tmps) = true:=by rfl) (hf:∀ w',S w' → (execOp a.eval oi).run P w' = .ok (.value v) w') (ha:a.put (some n) v = a':=by simp only [Act.put,sA,sZ,sS]; rfl):Aa P md ops Q S ds (fuel + 1) l a w:=P8 l' hi hN hc hQ (Or.inl ⟨hw,hf⟩) hS ha h
theorem on (i:Nat) (N:Option Tmp) (l':Array Bool) (h:∀ K:Act → World → Prop,Shut (∀ a' w',S w' → (S w' → Aa P md ops Q S ds fuel l' a' w') → K a' w') → if Region.wanted oi (yielded ops a.tmps) = true then Oper.wp P oi a w K Q else K (a.put N undef) w)
  (hi:ops[i]? = some oi:=by rfl) (hN:oi.dst = N:=by rfl) (hc:I9 md ops l l' i = true:=by kernel_rfl) (hd:i ∉ ds:=by decide):Aa P md ops Q S ds (fuel + 1) l a w:=jd l' hi hN hc hd h
theorem la (i:Nat) (N:Option Tmp) (l':Array Bool) (h:∀ K:Act → World → Prop,Shut (∀ a' w',Aa P md ops Q S ds fuel l' a' w' → K a' w') → if Region.wanted oi (yielded ops a.tmps) = true then Oper.wp P oi a w K Q else K (a.put N undef) w)
  (hi:ops[i]? = some oi:=by rfl) (hN:oi.dst = N:=by rfl) (hc:I9 md ops l l' i = true:=by kernel_rfl) (hd:i ∈ ds:=by decide):Aa P md ops Q S ds (fuel + 1) l a w:=ZW l' hi hN hc hd h
theorem nm (n:Nat) {v:Value} (h:Aa P md ops Q S ds fuel l a' w) (ha:a.put (some n) v = a':=by simp only [Act.put,sA,sZ,sS]; rfl):Aa P md ops Q S ds fuel l (a.put (some n) v) w:=Dy ha h
end
end Go.Proofs.YtnkkgofpifhoeaaW.PrintLast
end
section
namespace Go.Proofs.Ytnkkgofpifhoeaa.Pk
open Go.RowKit Go.Proofs.YtnkkgofpifhoeaaW.PrintWords Go.Proofs.YtnkkgofpifhoeaaW.PrintLast Go.Proofs.Ytnkkgofpifhoeaa.Base
theorem b1 (w:World):(Instr.build 107 #[(0,.bool true),(4,.int .i64 14),(5,.int .i64 14)]).run Try.prog w = .ok (.agg #[.bool true,.bool false,.bool false,.bool false,.int .i64 14,.int .i64 14]) w:=by kernel_rfl
theorem b2 (w:World):(Instr.build 107 #[(0,.bool true),(1,.bool true),(3,.bool true),(4,.int .i64 22),(5,.int .i64 1021)]).run Try.prog w = .ok (.agg #[.bool true,.bool true,.bool false,.bool true,.int .i64 22,.int .i64 1021]) w:=by kernel_rfl
theorem b3 (w:World):(Instr.build 107 #[(1,.bool true),(4,.int .i64 17),(5,.int .i64 17)]).run Try.prog w = .ok (.agg #[.bool false,.bool true,.bool false,.bool false,.int .i64 17,.int .i64 17]) w:=by kernel_rfl
theorem b4 (w:World):(Instr.build 107 #[(1,.bool true),(2,.bool true),(4,.int .i64 41),(5,.int .i64 41)]).run Try.prog w = .ok (.agg #[.bool false,.bool true,.bool true,.bool false,.int .i64 41,.int .i64 41]) w:=by kernel_rfl
def tcells:Array Value:=#[.bool false,.bool false,.bool false,.bool false,.int .i64 0,.int .i64 0,.bool true,.bool false,.bool false,.bool false,.int .i64 14,.int .i64 14,.bool true,.bool true,.bool false,.bool true,.int .i64 22,.int .i64 1021,.bool false,.bool true,.bool false,.bool false,.int .i64 17,.int .i64 17,.bool false,.bool true,.bool true,.bool false,.int .i64 41,.int .i64 41]
def table:Value:=.agg tcells
theorem b5 (w:World):(Instr.build 108 #[(1,.agg #[.bool true,.bool false,.bool false,.bool false,.int .i64 14,.int .i64 14]),(2,.agg #[.bool true,.bool true,.bool false,.bool true,.int .i64 22,.int .i64 1021]),(3,.agg #[.bool false,.bool true,.bool false,.bool false,.int .i64 17,.int .i64 17]),(4,.agg #[.bool false,.bool true,.bool true,.bool false,.int .i64 41,.int .i64 41])]).run Try.prog w = .ok (.agg tcells) w:=by kernel_rfl
def zrow:Array Value:=#[.bool false,.bool false,.bool false,.bool false,.int .i64 0,.int .i64 0,.bool false,.bool false,.bool false,.bool false,.int .i64 0,.int .i64 0,.bool false,.bool false,.bool false,.bool false,.int .i64 0,.int .i64 0,.bool false,.bool false,.bool false,.bool false,.int .i64 0,.int .i64 0,.bool false,.bool false,.bool false,.bool false,.int .i64 0,.int .i64 0]
theorem al (w:World) (v:Value):(Instr.alloc 108 true v).run Try.prog w = .ok (.pointer (some ⟨w.heap.size,0,none⟩)) (w.alloc (.cells zrow 108)):=by kernel_rfl
theorem results_cell {P:Program} {fn:Func} {p:Tmp} {ty:TypeId} {w:World} {v:Value} (h:fn.results = #[.cell p ty]) (tmps:Array Value) (g:Nat) (hp:tmps.getD p undef = .pointer (some ⟨g,0,none⟩))
  (hl:(loadVar ty ⟨g,0,none⟩).run P w = .ok v w):(results fn tmps).run P w = .ok v w:=by
 have hp':tmps[p]?.getD undef = .pointer (some ⟨g,0,none⟩):=by simpa using hp
 simp only [results,h]
 simp [hp',asAddr,hl]
theorem setRow_alloc (w:World) (a b:Array Value) (t:TypeId):(w.alloc (.cells a t)).setRow w.heap.size b = w.alloc (.cells b t):=by
 have hm:∀ (h:Array Obj) (x:Obj) (f:Obj → Obj),(h.push x).modify h.size f = h.push (f x):=by
  intro h x f
  apply Array.ext
  ·simp
  ·intro i h1 h2
   simp only [Array.getElem_modify,Array.getElem_push]
   by_cases hi:h.size = i
   ·subst hi
    simp
   ·have hlt:i < h.size:=by simp at h1; omega
    simp [hi,hlt]
 unfold World.setRow World.alloc
 simp only
 rw [hm]
theorem rows_any (w:World):Calls Try.prog 59 #[] w fun e w' => e = .returned table ∧ Below w.heap.size w w':=by
 have h1:=b1
 have h2:=b2
 have h3:=b3
 have h4:=b4
 have h5:=b5
 have h0:=al
 go_enter Try.func59,Try.ntmps59
 go_wp2_with (((with_reducible refine gate_ (.store 108 (.tmp 0) (.tmp 5)) rfl ?_); refine wpList_store_row rfl 108 (.tmp 0) (.tmp 5) rfl w.heap.size _ rfl rfl 108 zrow (heap_alloc_new w _) (by kernel_rfl) rfl (by kernel_rfl) ?_; rw [setRow_alloc]))
 refine bodyPost_ret (v:=table) ?_ rfl ⟨rfl,(Below.refl _ _).alloc (Nat.le_refl _) _⟩
 have hl:=run_loadVar_row (P:=Try.prog) (w.alloc (.cells tcells 108)) w.heap.size 108 108 tcells (0,0) _ (heap_alloc_new w _) Try.underlying108 rfl (by kernel_rfl)
 exact results_cell Try.results59 _ _ rfl hl
end Go.Proofs.Ytnkkgofpifhoeaa.Pk
end
section
namespace Go.Proofs.Ytnkkgofpifhoeaa.Pk
open Go.RowKit Go.Proofs.Ytnkkgofpifhoeaa.OG Go.Proofs.Ytnkkgofpifhoeaa.Base Go.Proofs.Ytnkkgofpifhoeaa.Num Go.Proofs.YtnkkgofpifhoeaaW.PrintWords Go.Proofs.YtnkkgofpifhoeaaW.PrintLast
theorem yA (w:World):(Instr.index 108 table (.int .i64 1)).run Try.prog w = .ok (.agg #[.bool true,.bool false,.bool false,.bool false,.int .i64 14,.int .i64 14]) w:=by kernel_rfl
theorem yB (w:World):(Instr.index 108 table (.int .i64 2)).run Try.prog w = .ok (.agg #[.bool true,.bool true,.bool false,.bool true,.int .i64 22,.int .i64 1021]) w:=by kernel_rfl
theorem yC (w:World):(Instr.index 108 table (.int .i64 3)).run Try.prog w = .ok (.agg #[.bool false,.bool true,.bool false,.bool false,.int .i64 17,.int .i64 17]) w:=by kernel_rfl
theorem yD (w:World):(Instr.index 108 table (.int .i64 4)).run Try.prog w = .ok (.agg #[.bool false,.bool true,.bool true,.bool false,.int .i64 41,.int .i64 41]) w:=by kernel_rfl
theorem Md (mine AL yours seq AX stamp echo:Int) (zr zi:Nat) (A:Option Addr) (n c:Nat) (w:World) :
  Calls Try.prog 20 #[.agg #[.int .i64 1,.int .u32 mine,.int .u32 AL,.int .u32 yours,.int .u32 seq,.int .u32 AX,.int .u32 stamp,.int .u32 echo,.complex .f64 zr zi,.slice A n c]] w
   fun e w' => e = .returned (.int .i64 (if good1 mine AL yours seq AX stamp echo zr zi n = true then 0 else 101)) ∧ Below w.heap.size w w':=by
 have DZ:=Try.underlying27
 have hix:=yA
 cases hg:good1 mine AL yours seq AX stamp echo zr zi n
 all_goals
  have HG:=Lib.hid hg
  clear hg
  go_enter Try.func20,Try.ntmps20
  go_wp2_with fail
  have HB:=Lib.hid (heap_alloc_new w (.cells #[.int .i64 1,.int .u32 mine,.int .u32 AL,.int .u32 yours,.int .u32 seq,.int .u32 AX,.int .u32 stamp,.int .u32 echo,.complex .f64 zr zi,.slice A n c] 27))
  have HW:=Lib.hid (Aj ((Below.refl w.heap.size w).alloc (Nat.le_refl _) (.cells #[.int .i64 1,.int .u32 mine,.int .u32 AL,.int .u32 yours,.int .u32 seq,.int .u32 AX,.int .u32 stamp,.int .u32 echo,.complex .f64 zr zi,.slice A n c] 27)))
  refine Aw (n:=7) (S:=fun w' => w'.heap[w.heap.size]? = some (.cells #[.int .i64 1,.int .u32 mine,.int .u32 AL,.int .u32 yours,.int .u32 seq,.int .u32 AX,.int .u32 stamp,.int .u32 echo,.complex .f64 zr zi,.slice A n c] 27 (0,0))) (ds:=[]) OD (by kernel_rfl) rfl rfl (HB.out) (fun hHeld => ?_)
  generalize (w.alloc (.cells #[.int .i64 1,.int .u32 mine,.int .u32 AL,.int .u32 yours,.int .u32 seq,.int .u32 AX,.int .u32 stamp,.int .u32 echo,.complex .f64 zr zi,.slice A n c] 27)).drew = w1 at HW hHeld ⊢
  refine tk 0 20 gV hHeld ?_ (hf:=by intro w' s0; have hc0:w'.cell? ⟨w.heap.size,0,none⟩ = some (.int .i64 1):=(AA s0 0).trans rfl; have hc1:w'.cell? ⟨w.heap.size,1,none⟩ = some (.int .u32 mine):=(AA s0 1).trans rfl; have hc2:w'.cell? ⟨w.heap.size,2,none⟩ = some (.int .u32 AL):=(AA s0 2).trans rfl; have hc3:w'.cell? ⟨w.heap.size,3,none⟩ = some (.int .u32 yours):=(AA s0 3).trans rfl; have hc4:w'.cell? ⟨w.heap.size,4,none⟩ = some (.int .u32 seq):=(AA s0 4).trans rfl; have hc5:w'.cell? ⟨w.heap.size,5,none⟩ = some (.int .u32 AX):=(AA s0 5).trans rfl; have hc6:w'.cell? ⟨w.heap.size,6,none⟩ = some (.int .u32 stamp):=(AA s0 6).trans rfl; have Ih:w'.cell? ⟨w.heap.size,7,none⟩ = some (.int .u32 echo):=(AA s0 7).trans rfl; have hc8:w'.cell? ⟨w.heap.size,8,none⟩ = some (.complex .f64 zr zi):=(AA s0 8).trans rfl; have Hu:w'.cell? ⟨w.heap.size,9,none⟩ = some (.slice A n c):=(AA s0 9).trans rfl; clear s0; go_simp; with_reducible rfl)
  refine pu 2 22 gW ?_
  refine tk 3 23 gX hHeld ?_ (hf:=by intro w' s0; have hc0:w'.cell? ⟨w.heap.size,0,none⟩ = some (.int .i64 1):=(AA s0 0).trans rfl; clear s0; go_simp; with_reducible rfl)
  refine on 1 (some 21) ZR fun K hK => ?_
  refine BK Try.func59 (by kernel_rfl) rfl #[] (by rfl) rfl rfl (by (try simp only [List.map_toArray,List.map_cons,List.map_nil]); first | done | rfl) ?_
  refine (rows_any _).mono ?_
  rintro e w' ⟨rfl,hb⟩
  refine ⟨_,rfl,?_⟩
  have HW2:=Lib.hid (HW.out.trans (hb.mono HW.out.size))
  clear HW
  have HW:=HW2
  clear HW2
  have hs9:=(hb.block w.heap.size (AU hHeld)).trans hHeld
  clear hb
  refine hK.out _ _ (hs9) (fun hHeld => ?_)
  clear hK K
  refine nm 21 ?_
  refine pu 4 24 ZT ?_
  refine on 5 (some 25) MR fun K hK => ?_
  refine BK Try.func66 (by kernel_rfl) rfl #[.agg #[.int .i64 1,.int .u32 mine,.int .u32 AL,.int .u32 yours,.int .u32 seq,.int .u32 AX,.int .u32 stamp,.int .u32 echo,.complex .f64 zr zi,.slice A n c],.agg #[.bool true,.bool false,.bool false,.bool false,.int .i64 14,.int .i64 14]] (by rfl) rfl rfl (by (try simp only [List.map_toArray,List.map_cons,List.map_nil]); first | done | rfl) ?_
  refine (OL _ _ _ _ _ _ _ zr zi A n c _).mono ?_
  rintro e w' ⟨rfl,hb⟩
  refine ⟨_,rfl,?_⟩
  have HW2:=Lib.hid (HW.out.trans (hb.mono HW.out.size))
  clear HW
  have HW:=HW2
  clear HW2
  have hs9:=(hb.block w.heap.size (AU hHeld)).trans hHeld
  clear hb
  rw [HG.out]
  refine hK.out _ _ (hs9) (fun hHeld => ?_)
  clear hK K
  refine nm 25 ?_
  refine pu 6 26 OE ?_
  refine BN (by kernel_rfl) ?_
  go_wp2
  go_ret
  exact ⟨rfl,HW.out⟩
theorem OY (mine AL yours seq AX stamp echo:Int) (zr zi:Nat) (A:Option Addr) (n c:Nat) (w:World) (hn:n ≤ 1000) :
  Calls Try.prog 20 #[.agg #[.int .i64 2,.int .u32 mine,.int .u32 AL,.int .u32 yours,.int .u32 seq,.int .u32 AX,.int .u32 stamp,.int .u32 echo,.complex .f64 zr zi,.slice A n c]] w
   fun e w' => e = .returned (.int .i64 (if JF mine AL yours stamp echo zr zi n = true then 0 else 101)) ∧ Below w.heap.size w w':=by
 have DZ:=Try.underlying27
 have hix:=yB
 cases hg:JF mine AL yours stamp echo zr zi n
 all_goals
  have HG:=Lib.hid hg
  clear hg
  go_enter Try.func20,Try.ntmps20
  go_wp2_with fail
  have HB:=Lib.hid (heap_alloc_new w (.cells #[.int .i64 2,.int .u32 mine,.int .u32 AL,.int .u32 yours,.int .u32 seq,.int .u32 AX,.int .u32 stamp,.int .u32 echo,.complex .f64 zr zi,.slice A n c] 27))
  have HW:=Lib.hid (Aj ((Below.refl w.heap.size w).alloc (Nat.le_refl _) (.cells #[.int .i64 2,.int .u32 mine,.int .u32 AL,.int .u32 yours,.int .u32 seq,.int .u32 AX,.int .u32 stamp,.int .u32 echo,.complex .f64 zr zi,.slice A n c] 27)))
  refine Aw (n:=7) (S:=fun w' => w'.heap[w.heap.size]? = some (.cells #[.int .i64 2,.int .u32 mine,.int .u32 AL,.int .u32 yours,.int .u32 seq,.int .u32 AX,.int .u32 stamp,.int .u32 echo,.complex .f64 zr zi,.slice A n c] 27 (0,0))) (ds:=[]) OD (by kernel_rfl) rfl rfl (HB.out) (fun hHeld => ?_)
  generalize (w.alloc (.cells #[.int .i64 2,.int .u32 mine,.int .u32 AL,.int .u32 yours,.int .u32 seq,.int .u32 AX,.int .u32 stamp,.int .u32 echo,.complex .f64 zr zi,.slice A n c] 27)).drew = w1 at HW hHeld ⊢
  refine tk 0 20 gV hHeld ?_ (hf:=by intro w' s0; have hc0:w'.cell? ⟨w.heap.size,0,none⟩ = some (.int .i64 2):=(AA s0 0).trans rfl; have hc1:w'.cell? ⟨w.heap.size,1,none⟩ = some (.int .u32 mine):=(AA s0 1).trans rfl; have hc2:w'.cell? ⟨w.heap.size,2,none⟩ = some (.int .u32 AL):=(AA s0 2).trans rfl; have hc3:w'.cell? ⟨w.heap.size,3,none⟩ = some (.int .u32 yours):=(AA s0 3).trans rfl; have hc4:w'.cell? ⟨w.heap.size,4,none⟩ = some (.int .u32 seq):=(AA s0 4).trans rfl; have hc5:w'.cell? ⟨w.heap.size,5,none⟩ = some (.int .u32 AX):=(AA s0 5).trans rfl; have hc6:w'.cell? ⟨w.heap.size,6,none⟩ = some (.int .u32 stamp):=(AA s0 6).trans rfl; have Ih:w'.cell? ⟨w.heap.size,7,none⟩ = some (.int .u32 echo):=(AA s0 7).trans rfl; have hc8:w'.cell? ⟨w.heap.size,8,none⟩ = some (.complex .f64 zr zi):=(AA s0 8).trans rfl; have Hu:w'.cell? ⟨w.heap.size,9,none⟩ = some (.slice A n c):=(AA s0 9).trans rfl; clear s0; go_simp; with_reducible rfl)
  refine pu 2 22 gW ?_
  refine tk 3 23 gX hHeld ?_ (hf:=by intro w' s0; have hc0:w'.cell? ⟨w.heap.size,0,none⟩ = some (.int .i64 2):=(AA s0 0).trans rfl; clear s0; go_simp; with_reducible rfl)
  refine on 1 (some 21) ZR fun K hK => ?_
  refine BK Try.func59 (by kernel_rfl) rfl #[] (by rfl) rfl rfl (by (try simp only [List.map_toArray,List.map_cons,List.map_nil]); first | done | rfl) ?_
  refine (rows_any _).mono ?_
  rintro e w' ⟨rfl,hb⟩
  refine ⟨_,rfl,?_⟩
  have HW2:=Lib.hid (HW.out.trans (hb.mono HW.out.size))
  clear HW
  have HW:=HW2
  clear HW2
  have hs9:=(hb.block w.heap.size (AU hHeld)).trans hHeld
  clear hb
  refine hK.out _ _ (hs9) (fun hHeld => ?_)
  clear hK K
  refine nm 21 ?_
  refine pu 4 24 ZT ?_
  refine on 5 (some 25) MR fun K hK => ?_
  refine BK Try.func66 (by kernel_rfl) rfl #[.agg #[.int .i64 2,.int .u32 mine,.int .u32 AL,.int .u32 yours,.int .u32 seq,.int .u32 AX,.int .u32 stamp,.int .u32 echo,.complex .f64 zr zi,.slice A n c],.agg #[.bool true,.bool true,.bool false,.bool true,.int .i64 22,.int .i64 1021]] (by rfl) rfl rfl (by (try simp only [List.map_toArray,List.map_cons,List.map_nil]); first | done | rfl) ?_
  refine (Qs _ _ _ _ _ _ _ zr zi A n c _).mono ?_
  rintro e w' ⟨rfl,hb⟩
  refine ⟨_,rfl,?_⟩
  have HW2:=Lib.hid (HW.out.trans (hb.mono HW.out.size))
  clear HW
  have HW:=HW2
  clear HW2
  have hs9:=(hb.block w.heap.size (AU hHeld)).trans hHeld
  clear hb
  rw [HG.out]
  refine hK.out _ _ (hs9) (fun hHeld => ?_)
  clear hK K
  refine nm 25 ?_
  refine pu 6 26 OE ?_
  refine BN (by kernel_rfl) ?_
  go_wp2
  go_ret
  exact ⟨rfl,HW.out⟩
theorem Q5 (mine AL yours seq AX stamp echo:Int) (zr zi:Nat) (A:Option Addr) (n c:Nat) (w:World) :
  Calls Try.prog 20 #[.agg #[.int .i64 3,.int .u32 mine,.int .u32 AL,.int .u32 yours,.int .u32 seq,.int .u32 AX,.int .u32 stamp,.int .u32 echo,.complex .f64 zr zi,.slice A n c]] w
   fun e w' => e = .returned (.int .i64 (if JG mine AL yours seq stamp echo zr zi n = true then 0 else 101)) ∧ Below w.heap.size w w':=by
 have DZ:=Try.underlying27
 have hix:=yC
 cases hg:JG mine AL yours seq stamp echo zr zi n
 all_goals
  have HG:=Lib.hid hg
  clear hg
  go_enter Try.func20,Try.ntmps20
  go_wp2_with fail
  have HB:=Lib.hid (heap_alloc_new w (.cells #[.int .i64 3,.int .u32 mine,.int .u32 AL,.int .u32 yours,.int .u32 seq,.int .u32 AX,.int .u32 stamp,.int .u32 echo,.complex .f64 zr zi,.slice A n c] 27))
  have HW:=Lib.hid (Aj ((Below.refl w.heap.size w).alloc (Nat.le_refl _) (.cells #[.int .i64 3,.int .u32 mine,.int .u32 AL,.int .u32 yours,.int .u32 seq,.int .u32 AX,.int .u32 stamp,.int .u32 echo,.complex .f64 zr zi,.slice A n c] 27)))
  refine Aw (n:=7) (S:=fun w' => w'.heap[w.heap.size]? = some (.cells #[.int .i64 3,.int .u32 mine,.int .u32 AL,.int .u32 yours,.int .u32 seq,.int .u32 AX,.int .u32 stamp,.int .u32 echo,.complex .f64 zr zi,.slice A n c] 27 (0,0))) (ds:=[]) OD (by kernel_rfl) rfl rfl (HB.out) (fun hHeld => ?_)
  generalize (w.alloc (.cells #[.int .i64 3,.int .u32 mine,.int .u32 AL,.int .u32 yours,.int .u32 seq,.int .u32 AX,.int .u32 stamp,.int .u32 echo,.complex .f64 zr zi,.slice A n c] 27)).drew = w1 at HW hHeld ⊢
  refine tk 0 20 gV hHeld ?_ (hf:=by intro w' s0; have hc0:w'.cell? ⟨w.heap.size,0,none⟩ = some (.int .i64 3):=(AA s0 0).trans rfl; have hc1:w'.cell? ⟨w.heap.size,1,none⟩ = some (.int .u32 mine):=(AA s0 1).trans rfl; have hc2:w'.cell? ⟨w.heap.size,2,none⟩ = some (.int .u32 AL):=(AA s0 2).trans rfl; have hc3:w'.cell? ⟨w.heap.size,3,none⟩ = some (.int .u32 yours):=(AA s0 3).trans rfl; have hc4:w'.cell? ⟨w.heap.size,4,none⟩ = some (.int .u32 seq):=(AA s0 4).trans rfl; have hc5:w'.cell? ⟨w.heap.size,5,none⟩ = some (.int .u32 AX):=(AA s0 5).trans rfl; have hc6:w'.cell? ⟨w.heap.size,6,none⟩ = some (.int .u32 stamp):=(AA s0 6).trans rfl; have Ih:w'.cell? ⟨w.heap.size,7,none⟩ = some (.int .u32 echo):=(AA s0 7).trans rfl; have hc8:w'.cell? ⟨w.heap.size,8,none⟩ = some (.complex .f64 zr zi):=(AA s0 8).trans rfl; have Hu:w'.cell? ⟨w.heap.size,9,none⟩ = some (.slice A n c):=(AA s0 9).trans rfl; clear s0; go_simp; with_reducible rfl)
  refine pu 2 22 gW ?_
  refine tk 3 23 gX hHeld ?_ (hf:=by intro w' s0; have hc0:w'.cell? ⟨w.heap.size,0,none⟩ = some (.int .i64 3):=(AA s0 0).trans rfl; clear s0; go_simp; with_reducible rfl)
  refine on 1 (some 21) ZR fun K hK => ?_
  refine BK Try.func59 (by kernel_rfl) rfl #[] (by rfl) rfl rfl (by (try simp only [List.map_toArray,List.map_cons,List.map_nil]); first | done | rfl) ?_
  refine (rows_any _).mono ?_
  rintro e w' ⟨rfl,hb⟩
  refine ⟨_,rfl,?_⟩
  have HW2:=Lib.hid (HW.out.trans (hb.mono HW.out.size))
  clear HW
  have HW:=HW2
  clear HW2
  have hs9:=(hb.block w.heap.size (AU hHeld)).trans hHeld
  clear hb
  refine hK.out _ _ (hs9) (fun hHeld => ?_)
  clear hK K
  refine nm 21 ?_
  refine pu 4 24 ZT ?_
  refine on 5 (some 25) MR fun K hK => ?_
  refine BK Try.func66 (by kernel_rfl) rfl #[.agg #[.int .i64 3,.int .u32 mine,.int .u32 AL,.int .u32 yours,.int .u32 seq,.int .u32 AX,.int .u32 stamp,.int .u32 echo,.complex .f64 zr zi,.slice A n c],.agg #[.bool false,.bool true,.bool false,.bool false,.int .i64 17,.int .i64 17]] (by rfl) rfl rfl (by (try simp only [List.map_toArray,List.map_cons,List.map_nil]); first | done | rfl) ?_
  refine (TB _ _ _ _ _ _ _ zr zi A n c _).mono ?_
  rintro e w' ⟨rfl,hb⟩
  refine ⟨_,rfl,?_⟩
  have HW2:=Lib.hid (HW.out.trans (hb.mono HW.out.size))
  clear HW
  have HW:=HW2
  clear HW2
  have hs9:=(hb.block w.heap.size (AU hHeld)).trans hHeld
  clear hb
  rw [HG.out]
  refine hK.out _ _ (hs9) (fun hHeld => ?_)
  clear hK K
  refine nm 25 ?_
  refine pu 6 26 OE ?_
  refine BN (by kernel_rfl) ?_
  go_wp2
  go_ret
  exact ⟨rfl,HW.out⟩
theorem OZ (mine AL yours seq AX stamp echo:Int) (zr zi:Nat) (A:Option Addr) (n c:Nat) (w:World) (hp:zr < 18446744073709551616) (hq:zi < 18446744073709551616) :
  Calls Try.prog 20 #[.agg #[.int .i64 4,.int .u32 mine,.int .u32 AL,.int .u32 yours,.int .u32 seq,.int .u32 AX,.int .u32 stamp,.int .u32 echo,.complex .f64 zr zi,.slice A n c]] w
   fun e w' => e = .returned (.int .i64 (if IZ mine AL yours seq zr zi n = true then 0 else 101)) ∧ Below w.heap.size w w':=by
 have DZ:=Try.underlying27
 have hix:=yD
 cases hg:IZ mine AL yours seq zr zi n
 all_goals
  have HG:=Lib.hid hg
  clear hg
  have HP:=Lib.hid hp
  have HQ:=Lib.hid hq
  clear hp hq
  go_enter Try.func20,Try.ntmps20
  go_wp2_with fail
  have HB:=Lib.hid (heap_alloc_new w (.cells #[.int .i64 4,.int .u32 mine,.int .u32 AL,.int .u32 yours,.int .u32 seq,.int .u32 AX,.int .u32 stamp,.int .u32 echo,.complex .f64 zr zi,.slice A n c] 27))
  have HW:=Lib.hid (Aj ((Below.refl w.heap.size w).alloc (Nat.le_refl _) (.cells #[.int .i64 4,.int .u32 mine,.int .u32 AL,.int .u32 yours,.int .u32 seq,.int .u32 AX,.int .u32 stamp,.int .u32 echo,.complex .f64 zr zi,.slice A n c] 27)))
  refine Aw (n:=7) (S:=fun w' => w'.heap[w.heap.size]? = some (.cells #[.int .i64 4,.int .u32 mine,.int .u32 AL,.int .u32 yours,.int .u32 seq,.int .u32 AX,.int .u32 stamp,.int .u32 echo,.complex .f64 zr zi,.slice A n c] 27 (0,0))) (ds:=[]) OD (by kernel_rfl) rfl rfl (HB.out) (fun hHeld => ?_)
  generalize (w.alloc (.cells #[.int .i64 4,.int .u32 mine,.int .u32 AL,.int .u32 yours,.int .u32 seq,.int .u32 AX,.int .u32 stamp,.int .u32 echo,.complex .f64 zr zi,.slice A n c] 27)).drew = w1 at HW hHeld ⊢
  refine tk 0 20 gV hHeld ?_ (hf:=by intro w' s0; have hc0:w'.cell? ⟨w.heap.size,0,none⟩ = some (.int .i64 4):=(AA s0 0).trans rfl; have hc1:w'.cell? ⟨w.heap.size,1,none⟩ = some (.int .u32 mine):=(AA s0 1).trans rfl; have hc2:w'.cell? ⟨w.heap.size,2,none⟩ = some (.int .u32 AL):=(AA s0 2).trans rfl; have hc3:w'.cell? ⟨w.heap.size,3,none⟩ = some (.int .u32 yours):=(AA s0 3).trans rfl; have hc4:w'.cell? ⟨w.heap.size,4,none⟩ = some (.int .u32 seq):=(AA s0 4).trans rfl; have hc5:w'.cell? ⟨w.heap.size,5,none⟩ = some (.int .u32 AX):=(AA s0 5).trans rfl; have hc6:w'.cell? ⟨w.heap.size,6,none⟩ = some (.int .u32 stamp):=(AA s0 6).trans rfl; have Ih:w'.cell? ⟨w.heap.size,7,none⟩ = some (.int .u32 echo):=(AA s0 7).trans rfl; have hc8:w'.cell? ⟨w.heap.size,8,none⟩ = some (.complex .f64 zr zi):=(AA s0 8).trans rfl; have Hu:w'.cell? ⟨w.heap.size,9,none⟩ = some (.slice A n c):=(AA s0 9).trans rfl; clear s0; go_simp; with_reducible rfl)
  refine pu 2 22 gW ?_
  refine tk 3 23 gX hHeld ?_ (hf:=by intro w' s0; have hc0:w'.cell? ⟨w.heap.size,0,none⟩ = some (.int .i64 4):=(AA s0 0).trans rfl; clear s0; go_simp; with_reducible rfl)
  refine on 1 (some 21) ZR fun K hK => ?_
  refine BK Try.func59 (by kernel_rfl) rfl #[] (by rfl) rfl rfl (by (try simp only [List.map_toArray,List.map_cons,List.map_nil]); first | done | rfl) ?_
  refine (rows_any _).mono ?_
  rintro e w' ⟨rfl,hb⟩
  refine ⟨_,rfl,?_⟩
  have HW2:=Lib.hid (HW.out.trans (hb.mono HW.out.size))
  clear HW
  have HW:=HW2
  clear HW2
  have hs9:=(hb.block w.heap.size (AU hHeld)).trans hHeld
  clear hb
  refine hK.out _ _ (hs9) (fun hHeld => ?_)
  clear hK K
  refine nm 21 ?_
  refine pu 4 24 ZT ?_
  refine on 5 (some 25) MR fun K hK => ?_
  refine BK Try.func66 (by kernel_rfl) rfl #[.agg #[.int .i64 4,.int .u32 mine,.int .u32 AL,.int .u32 yours,.int .u32 seq,.int .u32 AX,.int .u32 stamp,.int .u32 echo,.complex .f64 zr zi,.slice A n c],.agg #[.bool false,.bool true,.bool true,.bool false,.int .i64 41,.int .i64 41]] (by rfl) rfl rfl (by (try simp only [List.map_toArray,List.map_cons,List.map_nil]); first | done | rfl) ?_
  refine (Qu _ _ _ _ _ _ _ zr zi A n c _ HP.out HQ.out).mono ?_
  rintro e w' ⟨rfl,hb⟩
  refine ⟨_,rfl,?_⟩
  have HW2:=Lib.hid (HW.out.trans (hb.mono HW.out.size))
  clear HW
  have HW:=HW2
  clear HW2
  have hs9:=(hb.block w.heap.size (AU hHeld)).trans hHeld
  clear hb
  rw [HG.out]
  refine hK.out _ _ (hs9) (fun hHeld => ?_)
  clear hK K
  refine nm 25 ?_
  refine pu 6 26 OE ?_
  refine BN (by kernel_rfl) ?_
  go_wp2
  go_ret
  exact ⟨rfl,HW.out⟩
def Ah (kind mine AL yours seq AX stamp echo:Int) (zr zi n:Nat):Int :=
 if kind = 1 then (if good1 mine AL yours seq AX stamp echo zr zi n = true then 0 else 101)
 else if kind = 2 then (if 1000 < n then 102 else if JF mine AL yours stamp echo zr zi n = true then 0 else 101)
 else if kind = 3 then (if JG mine AL yours seq stamp echo zr zi n = true then 0 else 101)
 else if kind = 4 then (if IZ mine AL yours seq zr zi n = true then 0 else 101)
 else 100
theorem Oa (kind mine AL yours seq AX stamp echo:Int) (zr zi:Nat) (A:Option Addr) (n c:Nat) (w:World) (h:kind < 1) :
  Calls Try.prog 20 #[.agg #[.int .i64 kind,.int .u32 mine,.int .u32 AL,.int .u32 yours,.int .u32 seq,.int .u32 AX,.int .u32 stamp,.int .u32 echo,.complex .f64 zr zi,.slice A n c]] w
   fun e w' => e = .returned (.int .i64 100) ∧ Below w.heap.size w w':=by
 go_enter Try.func20,Try.ntmps20
 go_wp2
 go_ret
 exact ⟨rfl,(Below.refl w.heap.size w).alloc (Nat.le_refl _) _⟩
theorem Ob (kind mine AL yours seq AX stamp echo:Int) (zr zi:Nat) (A:Option Addr) (n c:Nat) (w:World) (h:4 < kind) :
  Calls Try.prog 20 #[.agg #[.int .i64 kind,.int .u32 mine,.int .u32 AL,.int .u32 yours,.int .u32 seq,.int .u32 AX,.int .u32 stamp,.int .u32 echo,.complex .f64 zr zi,.slice A n c]] w
   fun e w' => e = .returned (.int .i64 100) ∧ Below w.heap.size w w':=by
 go_enter Try.func20,Try.ntmps20
 go_wp2
 go_ret
 exact ⟨rfl,(Below.refl w.heap.size w).alloc (Nat.le_refl _) _⟩
theorem Oc (mine AL yours seq AX stamp echo:Int) (zr zi:Nat) (A:Option Addr) (n c:Nat) (w:World) (h:1000 < n) :
  Calls Try.prog 20 #[.agg #[.int .i64 2,.int .u32 mine,.int .u32 AL,.int .u32 yours,.int .u32 seq,.int .u32 AX,.int .u32 stamp,.int .u32 echo,.complex .f64 zr zi,.slice A n c]] w
   fun e w' => e = .returned (.int .i64 102) ∧ Below w.heap.size w w':=by
 go_enter Try.func20,Try.ntmps20
 go_wp2
 go_ret
 exact ⟨rfl,(Below.refl w.heap.size w).alloc (Nat.le_refl _) _⟩
theorem check_any (kind mine AL yours seq AX stamp echo:Int) (zr zi:Nat) (A:Option Addr) (n c:Nat) (w:World) (hp:zr < 18446744073709551616) (hq:zi < 18446744073709551616) :
  Calls Try.prog 20 #[.agg #[.int .i64 kind,.int .u32 mine,.int .u32 AL,.int .u32 yours,.int .u32 seq,.int .u32 AX,.int .u32 stamp,.int .u32 echo,.complex .f64 zr zi,.slice A n c]] w
   fun e w' => e = .returned (.int .i64 (Ah kind mine AL yours seq AX stamp echo zr zi n)) ∧ Below w.heap.size w w':=by
 unfold Ah
 by_cases h1:kind = 1
 ·subst h1
  rw [if_pos rfl]
  exact Md mine AL yours seq AX stamp echo zr zi A n c w
 rw [if_neg h1]
 by_cases h2:kind = 2
 ·subst h2
  rw [if_pos rfl]
  by_cases hn:1000 < n
  ·rw [if_pos hn]
   exact Oc mine AL yours seq AX stamp echo zr zi A n c w hn
  ·rw [if_neg hn]
   exact OY mine AL yours seq AX stamp echo zr zi A n c w (by omega)
 rw [if_neg h2]
 by_cases h3:kind = 3
 ·subst h3
  rw [if_pos rfl]
  exact Q5 mine AL yours seq AX stamp echo zr zi A n c w
 rw [if_neg h3]
 by_cases h4:kind = 4
 ·subst h4
  rw [if_pos rfl]
  exact OZ mine AL yours seq AX stamp echo zr zi A n c w hp hq
 rw [if_neg h4]
 by_cases h5:kind < 1
 ·exact Oa kind mine AL yours seq AX stamp echo zr zi A n c w h5
 ·exact Ob kind mine AL yours seq AX stamp echo zr zi A n c w (by omega)
end Go.Proofs.Ytnkkgofpifhoeaa.Pk
end
section
namespace Go.Proofs.Ytnkkgofpifhoeaa.Pk
open Go.RowKit Go.Proofs.Ytnkkgofpifhoeaa.Base Go.Proofs.YtnkkgofpifhoeaaW.PrintWords Go.Proofs.YtnkkgofpifhoeaaW.PrintLast
theorem info5:(Try.prog.info? 5).map (fun i => (i.zero,i.size,i.bytes)) = some (some (.int .u8 0),1,1):=by kernel_rfl
def numOf (a:Int) (l:List Int):Int:=l.foldl (fun n c => Go.bits .or .u64 (IntKind.u64.wrap (n * 256)) (IntKind.u64.wrap c)) a
theorem Oe (a:Int) (l:List Int) (c:Int):numOf a (l ++ [c]) = Go.bits .or .u64 (IntKind.u64.wrap (numOf a l * 256)) (IntKind.u64.wrap c):=by
 simp [numOf,List.foldl_append]
theorem Vo (l:List Int) (k:Nat) (h:k < l.length):l.take (k + 1) = l.take k ++ [rd l (k:Int)]:=by
 rw [List.take_succ_eq_append_getElem h]
 unfold rd
 rw [Int.toNat_natCast,List.getD_eq_getElem?_getD,List.getElem?_eq_getElem h]
 rfl
def QG (g c size:Nat) (A:Option Addr) (l:List Int) (w:World) (e:Ending) (w':World):Prop :=
 ∃ A',e = .returned (.int .u64 (numOf 0 (l.take size))) ∧ w' = w.setCell ⟨g,0,none⟩ (.slice A' (l.drop size).length (c - size)) ∧
    (∀ W,Kd.C (Kd.int .u8) W A l.length l → Kd.C (Kd.int .u8) W A' (l.drop size).length (l.drop size))
theorem IL (g:Nat) (A:Option Addr) (c size:Nat) (l:List Int) (w:World) (hg:w.heap[g]? = some (.cells #[.slice A l.length c] 112 (0,0)))
  (hC:Kd.C (Kd.int .u8) w A l.length l) (hc:l.length ≤ c) (h0:0 < size) (hs:size ≤ l.length) (hm:l.length ≤ 1000000000000) :
  Calls Try.prog 60 #[.pointer (some ⟨g,0,none⟩),.int .i64 size] w
   (QG g c size A l w):=by
 have hcell:w.cell? ⟨g,0,none⟩ = some (.slice A l.length c):=(AA hg 0).trans rfl
 have hfree:w.frozen? ⟨g,0,none⟩ = false:=AB hg 0
 obtain ⟨i0,hi0,_,hsz,_⟩:=info_parts info5
 obtain ⟨hcut,_,_⟩:=KN (P:=Try.prog) (Value.int .u8) 0 22 5 .i64 Try.underlying22 hi0 hsz A c l (size:Int) (by omega) (by omega) hc
 obtain ⟨A',Ze,hA2,_⟩:=D8 (P:=Try.prog) (Value.int .u8) 0 22 5 .i64 Try.underlying22 hi0 hsz A c l (size:Int) (by omega) (by omega) hc
 rw [Int.toNat_natCast] at hcut Ze hA2
 obtain ⟨ad,eA,_⟩:=Kd.EI hC 0 (by omega) (by omega)
 subst eA
 have HA2:=Lib.hid hA2
 have HC:=Lib.hid hC
 have HG:=Lib.hid hg
 clear hA2 hC hg hi0 hsz
 go_enter Try.func60,Try.ntmps60
 go_wp2
 go_loop [5,15] (fun n i => ∃ k:Nat,k ≤ size ∧ i = .int .i64 k ∧ n = .int .u64 (numOf 0 (l.take k))) (fun _ i => size - (intOf i).toNat)
 case atStart => exact ⟨0,Nat.zero_le _,rfl,rfl⟩
 case round =>
  obtain ⟨k,hk,rfl,rfl⟩:=hrel
  by_cases hlt:k < size
  ·obtain ⟨ad',ji,hx⟩:=Kd.EI HC.out (k:Int) (by omega) (by omega)
   injection ji with ji
   subst ji
   rw [Int.toNat_natCast] at hx
   go_wp2
   go_round
   case rel =>
    refine ⟨k + 1,by omega,by go_num,?_⟩
    rw [Vo l k (by omega),Oe]
   case measure => simp [intOf]; omega
  ·obtain rfl:k = size:=by omega
   go_wp2
   go_ret
   unfold QG
   exact ⟨A',rfl,by simp,fun W hW => Kd.FC (h1:=fun _ => rfl) (HA2.out W (Kd.Dq hW))⟩
def AP (l:List Int):Int:=numOf 0 (l.take 4)
def AO (l:List Int):List Int:=l.drop 4
theorem AZ (l:List Int):(AO l).length = l.length - 4:=List.length_drop
def Hw (g c:Nat) (A:Option Addr) (l:List Int) (w:World) (e:Ending) (w':World):Prop :=
 ∃ A',e = .returned (.int .u64 (AP l)) ∧ w' = w.setCell ⟨g,0,none⟩ (.slice A' (AO l).length (c - 4)) ∧
    (∀ W,Kd.C (Kd.int .u8) W A l.length l → Kd.C (Kd.int .u8) W A' (AO l).length (AO l))
theorem CP (g:Nat) (A:Option Addr) (c:Nat) (l:List Int) (w:World) (hg:w.heap[g]? = some (.cells #[.slice A l.length c] 112 (0,0)))
  (hC:Kd.C (Kd.int .u8) w A l.length l) (hc:l.length ≤ c) (hs:4 ≤ l.length) (hm:l.length ≤ 1000000000000) :
  Calls Try.prog 60 #[.pointer (some ⟨g,0,none⟩),.int .i64 4] w (Hw g c A l w) :=
 IL g A c 4 l w hg hC hc (by decide) hs hm
def num1 (l:List Int):Int:=numOf 0 (l.take 1)
def Lj (l:List Int):List Int:=l.drop 1
theorem BB (l:List Int):(Lj l).length = l.length - 1:=List.length_drop
def Zf (g c:Nat) (A:Option Addr) (l:List Int) (w:World) (e:Ending) (w':World):Prop :=
 ∃ A',e = .returned (.int .u64 (num1 l)) ∧ w' = w.setCell ⟨g,0,none⟩ (.slice A' (Lj l).length (c - 1)) ∧
    (∀ W,Kd.C (Kd.int .u8) W A l.length l → Kd.C (Kd.int .u8) W A' (Lj l).length (Lj l))
theorem TQ (g:Nat) (A:Option Addr) (c:Nat) (l:List Int) (w:World) (hg:w.heap[g]? = some (.cells #[.slice A l.length c] 112 (0,0)))
  (hC:Kd.C (Kd.int .u8) w A l.length l) (hc:l.length ≤ c) (hs:1 ≤ l.length) (hm:l.length ≤ 1000000000000) :
  Calls Try.prog 60 #[.pointer (some ⟨g,0,none⟩),.int .i64 1] w (Zf g c A l w) :=
 IL g A c 1 l w hg hC hc (by decide) hs hm
def FN (l:List Int):Int:=numOf 0 (l.take 8)
def Gm (l:List Int):List Int:=l.drop 8
theorem BC (l:List Int):(Gm l).length = l.length - 8:=List.length_drop
def Xq (g c:Nat) (A:Option Addr) (l:List Int) (w:World) (e:Ending) (w':World):Prop :=
 ∃ A',e = .returned (.int .u64 (FN l)) ∧ w' = w.setCell ⟨g,0,none⟩ (.slice A' (Gm l).length (c - 8)) ∧
    (∀ W,Kd.C (Kd.int .u8) W A l.length l → Kd.C (Kd.int .u8) W A' (Gm l).length (Gm l))
theorem Me (g:Nat) (A:Option Addr) (c:Nat) (l:List Int) (w:World) (hg:w.heap[g]? = some (.cells #[.slice A l.length c] 112 (0,0)))
  (hC:Kd.C (Kd.int .u8) w A l.length l) (hc:l.length ≤ c) (hs:8 ≤ l.length) (hm:l.length ≤ 1000000000000) :
  Calls Try.prog 60 #[.pointer (some ⟨g,0,none⟩),.int .i64 8] w (Xq g c A l w) :=
 IL g A c 8 l w hg hC hc (by decide) hs hm
end Go.Proofs.Ytnkkgofpifhoeaa.Pk
end
