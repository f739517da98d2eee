/- What the laws of a pair are proved with: links and pairs in memory, what their methods do, what a pair keeps to (part 25). -/
import Derived.Test.YtnkkgofpifhoeaaPG24
import Derived.Deep.LoopGhost
import Derived.Laws.StructEq
import Derived.Deep.MidRow
import Derived.ArgAppend
import Derived.LoopN
set_option linter.unusedSimpArgs false
set_option linter.unusedVariables false
set_option maxRecDepth 100000
set_option maxHeartbeats 16000000
section
namespace Go.Proofs.Ytnkkgofpifhoeaa.Pe
open Go.RowKit Go.Proofs.Ytnkkgofpifhoeaa.Base Go.Proofs.Ytnkkgofpifhoeaa.Steps Go.Proofs.Ytnkkgofpifhoeaa.Lk Go.Proofs.YtnkkgofpifhoeaaW.PrintWords Go.Proofs.YtnkkgofpifhoeaaW.PrintLast
theorem Pj (n:Int):Pk.Bv (Pk.CO n):=by
 rw [Pk.QJ]
 intro c hc
 simp only [List.mem_cons,List.mem_singleton,List.not_mem_nil,or_false] at hc
 rcases hc with rfl | rfl | rfl | rfl <;> omega
theorem KC (n:Int):Pk.Bv (Pk.Di n):=by
 rw [Pk.QK]
 intro c hc
 simp only [List.mem_cons,List.mem_singleton,List.not_mem_nil,or_false] at hc
 rcases hc with rfl | rfl | rfl | rfl | rfl | rfl | rfl | rfl <;> omega
theorem BA {l m:List Int} (h:Pk.Bv l) (k:Pk.Bv m):Pk.Bv (l ++ m):=fun c hc => (List.mem_append.1 hc).elim (h c) (k c)
theorem GL {x:Int} (h:0 ≤ x ∧ x < 256):Pk.Bv [x]:=fun c hc => by rw [List.mem_singleton.1 hc]; exact h
theorem SC {p:BJ} (h:JX p):Pk.Bv (Ej p):=by
 have p4:∀ n,Pk.Bv (p4 n):=fun n => Pj _
 unfold Ej
 split
 ·exact BA (BA (BA (BA (GL (by decide)) (p4 _)) (p4 _)) (p4 _)) (GL (by rw [IntKind.wrap_u8]; omega))
 split
 ·exact BA (BA (BA (BA (BA (BA (GL (by decide)) (p4 _)) (p4 _)) (p4 _)) (p4 _)) (p4 _)) h.bytes
 split
 ·exact BA (BA (BA (BA (BA (GL (by decide)) (p4 _)) (p4 _)) (p4 _)) (p4 _)) h.bytes
 ·exact BA (BA (BA (BA (BA (BA (BA (BA (BA (GL (by decide)) (p4 _)) (p4 _)) (p4 _)) (p4 _)) (p4 _)) (p4 _)) (KC _)) (KC _)) h.bytes
structure PW (wr:World) (B gp:Nat) (U:Nat → Prop) (X:Ps):Prop where
 at_:∃ a own v,BV wr B gp X.nodes a own X v ∧ ∀ k,Al X a gp own k → U k
 lt:∀ k,U k → k < wr.heap.size
section
variable {wr w':World} {B gp:Nat} {U:Nat → Prop} {X:Ps} (h:PW wr B gp U X)
include h
theorem PW.kept {S:Nat → Prop} (hk:Kept wr w' S) (hS:∀ k,U k → ¬ S k):PW w' B gp U X:=by
 obtain ⟨a,own,v,h1,h2⟩:=h.at_
 exact ⟨⟨a,own,v,h1.kept hk (fun k hx => hS k (h2 k hx)),h2⟩,fun k hx => Nat.lt_of_lt_of_le (h.lt k hx) hk.1⟩
theorem PW.sub (hb:Below wr.heap.size wr w'):PW w' B gp U X:=h.kept (Kept.of_below hb (fun _ => False)) (fun _ _ x => x)
theorem Pm (hn:X.nodes ≤ 64) (hg:GX X):Calls Try.prog 58 #[.pointer (some ⟨gp,0,none⟩)] wr fun e w' => ∃ v,e = .returned v ∧ MH.R 176 w' wr.heap.size (fun _ => True) v (DC X X.nodes) ∧ PW w' B gp U (Be X X.nodes) ∧ Kept wr w' U ∧ Below B wr w':=by
 obtain ⟨a,own,v,h1,h2⟩:=h.at_
 refine (Ot h1 hn (fun k hk p hp => (hg.wire k hk p hp).1) hg.len).mono fun e w' hq => ?_
 obtain ⟨v1,he,hO⟩:=hq
 have hs:=BR X X.nodes
 refine ⟨v1,he,hO.row,⟨⟨a,own,v,by rw [hs.2.2.1]; exact hO.at_,fun k hk => h2 k ?_⟩,fun k hk => Nat.lt_of_lt_of_le (h.lt k hk) hO.kept.1⟩,hO.kept.mono h2,hO.below⟩
 exact (JL (X:=X) (m:=k + 1) ⟨hs.2.1,hs.2.2.1⟩ (fun _ _ h => .inl h) k hk).elim id (fun h => by omega)
theorem PW.mv {w':World} {X':Ps} {a:Ad} {own:Nat → Nat → Prop} {v:Value} (h1:BV wr B gp X.nodes a own X v) (h2:∀ k,Al X a gp own k → U k) (hM:Mv wr B gp X.nodes a own X X' w'):PW w' B gp (more U wr w') X' ∧ Kept wr w' U ∧ Below B wr w':=by
 obtain ⟨own',v',g1,g2,g3,g4,g5⟩:=hM
 refine ⟨⟨⟨a,own',v',by rw [g5.2]; exact g1,fun k hk => ?_⟩,fun k hk => hk.elim (fun h0 => Nat.lt_of_lt_of_le (h.lt k h0) g3.1) (fun h0 => h0.2)⟩,g3.mono h2,g4⟩
 exact (JL g5 g2 k hk).elim (fun h0 => .inl (h2 k h0)) (fun h0 => .inr ⟨h0,g1.WI k hk⟩)
theorem Qj (i:Nat) (hi:X.has i) (U7:X.nodes ≤ 64) (hg:GX X) (hl:X.evs.length ≤ 999990) {p:BJ} (hp:JX p) (A:Option Addr) (c:Nat) (hC:(Kd.int .u8).C wr A (Ej p).length (Ej p)) (hc:(Ej p).length ≤ c) :
  Calls Try.prog 94 #[.pointer (some ⟨gp,0,none⟩),.int .i64 i,.int .u32 1,.slice A (Ej p).length c] wr fun e w' => ∃ A7 c7,e = .returned (.tuple #[.slice A7 (BM (X.pn i).e 1 p).2.body.length c7,.int .i64 0]) ∧ (Kd.int .u8).C w' A7 (BM (X.pn i).e 1 p).2.body.length (BM (X.pn i).e 1 p).2.body ∧ PW w' B gp (more U wr w') (EG X i 1 p) ∧ Kept wr w' U ∧ Below B wr w':=by
 obtain ⟨a,own,v,h1,h2⟩:=h.at_
 refine (Yn h1 i hi (hg i hi).1.ok hl 1 (by decide) p hp U7 A c hC hc (SC hp)).mono fun e w' hq => ?_
 obtain ⟨A7,c7,okb,he,hR,hM⟩:=hq
 exact ⟨A7,c7,he,(Kd.D9 hR).2.2,h.mv h1 h2 hM⟩
theorem Wi (i:Nat) (hi:X.has i) (hg:GX X) (hl:X.evs.length ≤ 1000000) (body:List Int) (A:Option Addr) (c:Nat) (hC:(Kd.int .u8).C wr A body.length body) :
  Calls Try.prog 51 #[.pointer (some ⟨gp,0,none⟩),.int .i64 i,.slice A body.length c] wr fun e w' => e = .returned (.int .i64 (J6 X i body)) ∧ PW w' B gp (more U wr w') (JM X i body) ∧ Kept wr w' U ∧ Below B wr w':=by
 obtain ⟨a,own,v,h1,h2⟩:=h.at_
 exact (L9 h1 i hi (hg i hi).1.ok hl body A c hC).mono fun e w' hq => ⟨hq.1,h.mv h1 h2 hq.2⟩
theorem U8 (i:Nat) (hi:X.has i):Calls Try.prog 54 #[.pointer (some ⟨gp,0,none⟩),.int .i64 i] wr fun e w' => e = .returned (.int .i64 (X.pn i).e.phase) ∧ wr = w':=by
 obtain ⟨a,own,v,h1,h2⟩:=h.at_
 exact Uf h1 i hi
theorem U9 (i:Nat) (hi:X.has i):Calls Try.prog 55 #[.pointer (some ⟨gp,0,none⟩),.int .i64 i] wr fun e w' => e = .returned (.int .i64 (X.pn i).e.queue.length) ∧ wr = w':=by
 obtain ⟨a,own,v,h1,h2⟩:=h.at_
 exact Ug h1 i hi
theorem SE:Calls Try.prog 53 #[.pointer (some ⟨gp,0,none⟩)] wr fun e w' => ∃ v ZZ U',e = .returned v ∧ SY.R 99 w' B ZZ v X.evs ∧ (∀ k,ZZ k → U k ∧ ¬ U' k) ∧ PW w' B gp U' { X with evs:=[] } ∧ (∀ k,U' k → U k) ∧ Kept wr w' U' ∧ Below B wr w':=by
 obtain ⟨a,own,v,h1,h2⟩:=h.at_
 refine (Rh h1).mono fun e w' hq => ?_
 obtain ⟨he,hP,hR,hK,hb⟩:=hq
 have hz:=hK.1
 have hP':BV w' B gp X.nodes a (fun i k => i ≠ 0 ∧ own i k) { X with evs:=[] } (.slice none 0 0):=⟨hP.blk,hP.map,hP.pk,fun k hk => (hP.e k hk).mono (fun j hj => ⟨by omega,hj⟩),Kd.Cc _ _ _ _ _,hP.ch.mono (fun j hj => ⟨by decide,hj⟩),hP.low,hP.inj,fun i k hk => hP.apart i k hk.2,fun i j k hi hj => hP.Dn i j k hi.2 hj.2,fun i k hk => hP.lt i k hk.2⟩
 have hal:∀ k,Al X a gp (fun i k => i ≠ 0 ∧ own i k) k → Al X a gp own k:=fun k hk => hk.imp_right (fun ⟨i,hi⟩ => ⟨i,hi.2⟩)
 refine ⟨v,own 0,Al X a gp (fun i k => i ≠ 0 ∧ own i k),he,hR,fun k hk => ⟨h2 k (.inr ⟨0,hk⟩),fun hx => ?_⟩,⟨⟨a,_,_,hP',fun k hk => hk⟩,fun k hk => hP'.WI k hk⟩,fun k hk => h2 k (hal k hk),hK.mono (fun k hk => .inl (.inl hk)),hb⟩
 rcases hx with hx | ⟨i,hi,hx⟩
 ·exact h1.apart 0 k hk hx
 ·exact hi (h1.Dn i 0 k hx hk)
end
theorem MM (me N:Nat) (hN:1 ≤ N ∧ N ≤ 64) (hme:1 ≤ me ∧ me ≤ N) (w:World):Calls Try.prog 50 #[.int .i64 me,.int .i64 N,.int .u32 1] w fun e w' => ∃ gp,e = .returned (.tuple #[.pointer (some ⟨gp,0,none⟩),.int .i64 0]) ∧ PW w' w.heap.size gp (fun k => w.heap.size ≤ k ∧ k < w'.heap.size) (fresh me 1 N) ∧ Below w.heap.size w w':=by
 refine (Oq me N 1 hN hme (by decide) w w.heap.size (Nat.le_refl _)).mono fun e w' hq => ?_
 obtain ⟨gp,he,a,own,h1,h2,h3,h4⟩:=hq
 exact ⟨gp,he,⟨⟨a,own,_,h1,fun k hk => ⟨h2 k hk,h1.WI k hk⟩⟩,fun k hk => hk.2⟩,h3⟩
end Go.Proofs.Ytnkkgofpifhoeaa.Pe
end
section
namespace Go.Proofs.Ytnkkgofpifhoeaa.Pe
open Go.RowKit Go.Proofs.Ytnkkgofpifhoeaa.Base Go.Proofs.Ytnkkgofpifhoeaa.Steps Go.Proofs.Ytnkkgofpifhoeaa.Lk Go.Proofs.YtnkkgofpifhoeaaW.PrintWords
def KY:Kd ByteArray:=Kd.scalar Value.string (fun _ => rfl)
def Po (i:Nat) (s:Ps × List (List Int)) (p:BJ):Ps × List (List Int):=(EG s.1 i 1 p,s.2 ++ (if (BM (s.1.pn i).e 1 p).2.body.length = 0 then [] else [(BM (s.1.pn i).e 1 p).2.body]))
def En (i:Nat) (s:Ps × List (List Int)) (ps:List BJ):Ps × List (List Int):=ps.foldl (Po i) s
theorem Nu (i:Nat) (s:Ps × List (List Int)) (ps:List BJ) (p:BJ):En i s (ps ++ [p]) = Po i (En i s ps) p:=by
 unfold En
 rw [List.foldl_append]
 rfl
theorem DW (i:Nat) (s:Ps × List (List Int)) (ps:List BJ):(En i s ps).1.me = s.1.me ∧ (En i s ps).1.nodes = s.1.nodes ∧ (En i s ps).1.evs.length ≤ s.1.evs.length + 2 * ps.length:=by
 induction ps generalizing s with
 | nil => exact ⟨rfl,rfl,Nat.le_refl _⟩
 | cons p ps ih =>
  have h1:=ih (Po i s p)
  have h2:=J9 s.1 i 1 p
  refine ⟨h1.1.trans h2.1,h1.2.1.trans h2.2.1,?_⟩
  have h3:=h1.2.2
  have h4:=h2.2.2
  have e:(Po i s p).1.evs.length = (EG s.1 i 1 p).evs.length:=rfl
  rw [e] at h3
  show (En i (Po i s p) ps).1.evs.length ≤ _
  rw [List.length_cons]
  omega
theorem JE (i:Nat) {s:Ps × List (List Int)} (h:GX s.1) {ps:List BJ} (hp:∀ p ∈ ps,p.Good):GX (En i s ps).1:=by
 induction ps generalizing s with
 | nil => exact h
 | cons p ps ih => exact ih (s:=Po i s p) (h.take i (by decide) (hp p (List.mem_cons_self))) (fun q hq => hp q (List.mem_cons_of_mem _ hq))
theorem MN (X:Ps) (k:Nat):∀ i,(DC X i).filter (fun x => x.1 == (k:Int)) = if k ≤ i ∧ X.has k then Fg k (X.pn k).e.out else []
 | 0 => by
  rw [if_neg (fun h => by have:=h.2.1; omega)]
  rfl
 | i + 1 => by
  have ih:=MN X k i
  show (DC X i ++ (if X.has (i + 1) then Fg (i + 1) (X.pn (i + 1)).e.out else [])).filter _ = _
  rw [List.filter_append,ih]
  have hall:∀ (ps:List BJ) (m:Nat),(Fg m ps).filter (fun x => x.1 == (k:Int)) = if m = k then Fg m ps else []:=fun ps m => by
   unfold Fg
   induction ps with
   | nil => split <;> rfl
   | cons p ps zT =>
    rw [List.map_cons,List.filter_cons,zT]
    by_cases hm:m = k
    ·subst hm; simp
    ·have hn:((m:Int) == (k:Int)) = false:=by simp; omega
     simp [hn,hm]
  by_cases hx:X.has (i + 1)
  ·rw [if_pos hx,hall]
   by_cases hk:i + 1 = k
   ·subst hk
    rw [if_neg (fun h => by omega),if_pos rfl,if_pos ⟨Nat.le_refl _,hx⟩]
    rfl
   ·rw [if_neg hk,List.append_nil]
    by_cases h1:k ≤ i ∧ X.has k
    ·rw [if_pos h1,if_pos ⟨by omega,h1.2⟩]
    ·rw [if_neg h1,if_neg (fun h => h1 ⟨by omega,h.2⟩)]
  ·rw [if_neg hx]
   show _ ++ [] = _
   rw [List.append_nil]
   by_cases h1:k ≤ i ∧ X.has k
   ·rw [if_pos h1,if_pos ⟨by omega,h1.2⟩]
   ·have h2:¬ (k ≤ i + 1 ∧ X.has k):=fun hh => by
     by_cases he:k = i + 1
     ·subst he; exact hx hh.2
     ·exact h1 ⟨by omega,hh.2⟩
    rw [if_neg h1,if_neg h2]
structure SX (ww:World) (V:Nat → Prop) (b Bz gz By gy g9 g8:Nat) (Z Y:Ps) (x:Value) (L:List (Int × List Int)) (v vh:Value) (gs hs:List ByteArray) (cs:Array Value) (col:Nat → Nat → Prop) (wr:World):Prop where
 z:PW wr Bz gz (col 0) Z
 y:PW wr By gy (col 1) Y
 x:MH.R 176 wr b (col 2) x L
 g:KY.R 9 wr b (col 3) v gs
 h:KY.R 9 wr b (col 4) vh hs
 a9:wr.heap[g9]? = some (.cells cs 94 (0,0))
 a8:wr.heap[g8]? = some (.cells #[.slice none 0 0,.slice none 0 0] 94 (0,0))
 c9:col 5 g9
 c8:col 5 g8
 ne:g9 ≠ g8
 Dn:∀ i j k,col i k → col j k → i = j
 lt:∀ i k,col i k → k < wr.heap.size
 kv:∀ k,V k → col 6 k ∧ wr.heap[k]? = ww.heap[k]?
section
variable {ww:World} {V:Nat → Prop} {b Bz gz By gy g9 g8:Nat} {Z Y Y':Ps} {x v vh v1:Value} {L:List (Int × List Int)} {gs hs gs':List ByteArray} {cs:Array Value} {col:Nat → Nat → Prop} {wr w' w1:World}
theorem SX.GG (h:SX ww V b Bz gz By gy g9 g8 Z Y x L v vh gs hs cs col wr) (i:Nat):∀ c d k,grow col i wr w' c k → grow col i wr w' d k → c = d:=by
 intro c d k hb hc
 rcases hb with hb | hb <;> rcases hc with hc | hc
 ·exact h.Dn c d k hb hc
 ·have:=h.lt c k hb; omega
 ·have:=h.lt d k hc; omega
 ·omega
theorem SX.GV (h:SX ww V b Bz gz By gy g9 g8 Z Y x L v vh gs hs cs col wr) (i:Nat) (hs':wr.heap.size ≤ w'.heap.size):∀ c k,grow col i wr w' c k → k < w'.heap.size:=by
 intro c k hb
 rcases hb with hb | hb
 ·have:=h.lt c k hb; omega
 ·exact hb.2.2
theorem SX.take (h:SX ww V b Bz gz By gy g9 g8 Z Y x L v vh gs hs cs col wr) (hP:PW w' By gy (more (col 1) wr w') Y') (hk:Kept wr w' (col 1)):SX ww V b Bz gz By gy g9 g8 Z Y' x L v vh gs hs cs (grow col 1 wr w') w':=by
 have ap:∀ i,i ≠ 1 → ∀ k,col i k → ¬ col 1 k:=fun i hi k h1 h2 => hi (h.Dn i 1 k h1 h2)
 have hz:=h.z.kept hk (ap 0 (by decide))
 obtain ⟨a0,o0,v0,e1,e2⟩:=hz.at_
 obtain ⟨a1,o1,v1',f1,f2⟩:=hP.at_
 exact ⟨⟨⟨a0,o0,v0,e1,fun k hk' => .inl (e2 k hk')⟩,fun k hk' => h.GV 1 hk.1 0 k hk'⟩,⟨⟨a1,o1,v1',f1,fun k hk' => (f2 k hk').elim .inl (fun hn => .inr ⟨rfl,hn⟩)⟩,fun k hk' => h.GV 1 hk.1 1 k hk'⟩,Kd.Az (Kd.BI h.x hk (ap 2 (by decide))) (fun _ hy => .inl hy),Kd.Az (Kd.BI h.g hk (ap 3 (by decide))) (fun _ hy => .inl hy),Kd.Az (Kd.BI h.h hk (ap 4 (by decide))) (fun _ hy => .inl hy),Ai h.a9 hk (ap 5 (by decide) _ h.c9),Ai h.a8 hk (ap 5 (by decide) _ h.c8),.inl h.c9,.inl h.c8,h.ne,h.GG 1,h.GV 1 hk.1,fun k hv => ⟨.inl (h.kv k hv).1,(hk.2 k (h.lt 6 k (h.kv k hv).1) (ap 6 (by decide) k (h.kv k hv).1)).trans (h.kv k hv).2⟩⟩
theorem SX.app (h:SX ww V b Bz gz By gy g9 g8 Z Y x L v vh gs hs cs col wr) (hk:Kept wr w1 (col 3)) (hg:KY.R 9 w1 b (fun k => col 3 k ∨ wr.heap.size ≤ k) v1 gs') (j:Nat) (hv:v1.oneCell' = true):SX ww V b Bz gz By gy g9 g8 Z Y x L v1 vh gs' hs (cs.setIfInBounds j v1) (grow col 3 wr w1) (w1.setCell ⟨g9,j,none⟩ v1):=by
 have ap:∀ i,i ≠ 3 → ∀ k,col i k → ¬ col 3 k:=fun i hi k h1 h2 => hi (h.Dn i 3 k h1 h2)
 have hk2:Kept w1 (w1.setCell ⟨g9,j,none⟩ v1) (fun k => k = g9):=Kept.setCell (S:=fun k => k = g9) (Kept.refl w1 _) (p:=⟨g9,j,none⟩) (.inl rfl) v1
 have n9:∀ i,i ≠ 5 → ∀ k,col i k → ¬ k = g9:=fun i hi k h1 h2 => hi (h.Dn i 5 k h1 (h2 ▸ h.c9))
 have MS:=AU h.a9
 have hsz:(w1.setCell ⟨g9,j,none⟩ v1).heap.size = w1.heap.size:=by simp [World.setCell]
 have hz:=(h.z.kept hk (ap 0 (by decide))).kept hk2 (n9 0 (by decide))
 have hy:=(h.y.kept hk (ap 1 (by decide))).kept hk2 (n9 1 (by decide))
 obtain ⟨a0,o0,v0,e1,e2⟩:=hz.at_
 obtain ⟨a1,o1,v1',f1,f2⟩:=hy.at_
 have hlt:∀ c k,grow col 3 wr w1 c k → k < (w1.setCell ⟨g9,j,none⟩ v1).heap.size:=fun c k hc => by rw [hsz]; exact h.GV 3 hk.1 c k hc
 refine ⟨⟨⟨a0,o0,v0,e1,fun k hk' => .inl (e2 k hk')⟩,hlt 0⟩,⟨⟨a1,o1,v1',f1,fun k hk' => .inl (f2 k hk')⟩,hlt 1⟩,Kd.Az (Kd.BI (Kd.BI h.x hk (ap 2 (by decide))) hk2 (n9 2 (by decide))) (fun _ hy => .inl hy),?_,Kd.Az (Kd.BI (Kd.BI h.h hk (ap 4 (by decide))) hk2 (n9 4 (by decide))) (fun _ hy => .inl hy),AQ (Ai h.a9 hk (ap 5 (by decide) _ h.c9)) j v1 rfl,Ai (Ai h.a8 hk (ap 5 (by decide) _ h.c8)) hk2 (fun e => h.ne e.symm),.inl h.c9,.inl h.c8,h.ne,h.GG 3,hlt,fun k hv => ⟨.inl (h.kv k hv).1,(hk2.2 k (Nat.lt_of_lt_of_le (h.lt 6 k (h.kv k hv).1) hk.1) (n9 6 (by decide) k (h.kv k hv).1)).trans ((hk.2 k (h.lt 6 k (h.kv k hv).1) (ap 6 (by decide) k (h.kv k hv).1)).trans (h.kv k hv).2)⟩⟩
 refine Kd.Az (Kd.BI (Kd.CW hg) hk2 (fun k hk' he => ?_)) (fun k hk' => hk'.1.elim .inl (fun hn => .inr ⟨rfl,hn,hk'.2.2.1⟩))
 rcases hk'.1 with h1 | h1
 ·exact n9 3 (by decide) k h1 he
 ·omega
end
end Go.Proofs.Ytnkkgofpifhoeaa.Pe
end
section
namespace Go.Proofs.Ytnkkgofpifhoeaa.Pe
open Go.RowKit Go.Proofs.Ytnkkgofpifhoeaa.Base Go.Proofs.Ytnkkgofpifhoeaa.Steps Go.Proofs.Ytnkkgofpifhoeaa.Lk Go.Proofs.YtnkkgofpifhoeaaW.PrintWords Go.Proofs.YtnkkgofpifhoeaaW.PrintLast
theorem info9:(Try.prog.info? 9).map (fun i => (i.zero,i.size,i.bytes)) = some (some (.string ⟨#[]⟩),1,16):=by kernel_rfl
def IA:Int × List Int:=(0,[])
theorem LM {w:World} {b:Nat} {ok:Nat → Prop} {A:Option Addr} {m c:Nat} {L:List (Int × List Int)} (h:MH.R 176 w b ok (.slice A m c) L) (n:Nat) (hn:n < m) :
  ∃ g Ab cb,A = some ⟨g,0,none⟩ ∧ m = L.length ∧ w.cell? ⟨g,n * 2,none⟩ = some (.int .i64 (L.getD n IA).1) ∧ w.cell? ⟨g,n * 2 + 1,none⟩ = some (.slice Ab (L.getD n IA).2.length cb) ∧ (L.getD n IA).2.length ≤ cb ∧ (Kd.int .u8).C w Ab (L.getD n IA).2.length (L.getD n IA).2:=by
 obtain ⟨hl,hnc,hC⟩:=Kd.D9 h
 obtain ⟨gx,cap,he,_⟩:=Kd.OO h (by omega)
 injection he with h1 h2 h3
 subst h1
 obtain ⟨cs,hcl,hM,hc,_⟩:=Kd.OU h IA (n:Int) (by omega) (by omega)
 rw [Int.toNat_natCast] at hM hc
 obtain ⟨bv,hcs,hR⟩:=Uj.1 hM
 obtain ⟨Ab,cb,hbv⟩:=Kd.Am hR
 subst hbv
 subst hcs
 have r:=Kd.D9 hR
 have h0:=hc 0 _ rfl
 have h1:=hc 1 _ rfl
 exact ⟨gx,Ab,cb,rfl,hl,h0,h1,r.2.1,r.2.2⟩
theorem Qk (i:Nat) (s:Ps × List (List Int)) (ps:List BJ):(En i s ps).2.length ≤ s.2.length + ps.length:=by
 induction ps generalizing s with
 | nil => exact Nat.le_refl _
 | cons p ps ih =>
  have h1:=ih (Po i s p)
  have h2:(Po i s p).2.length ≤ s.2.length + 1:=by
   show (s.2 ++ _).length ≤ _
   rw [List.length_append]
   split <;> simp
  show (En i (Po i s p) ps).2.length ≤ _
  rw [List.length_cons]
  omega
def LP (V:Nat → Prop) (w:World) (B0 b Bz gz By gy g9 g8:Nat) (Z:Ps) (i k:Nat) (s0:Ps × List (List Int)) (ps:List BJ) (x:Value) (L:List (Int × List Int)) (vh:Value) (hs:List ByteArray) (mk:Value → Array Value) (n:Nat) (wr:World):Prop :=
 ∃ q v col,SX w V b Bz gz By gy g9 g8 Z (En i s0 (ps.take q)).1 x L v vh ((En i s0 (ps.take q)).2.map Go.strOfNums) hs (mk v) col wr ∧ (L.drop n).filter (fun x => x.1 == (k:Int)) = Fg k (ps.drop q) ∧ q ≤ ps.length ∧ Below B0 w wr ∧ b ≤ wr.heap.size
theorem drop_at {L:List (Int × List Int)} {n:Nat} (h:n < L.length):L.drop n = L.getD n IA :: L.drop (n + 1):=by
 rw [List.drop_eq_getElem_cons h,List.getD_eq_getElem?_getD,List.getElem?_eq_getElem h]
 rfl
theorem LP.next {V:Nat → Prop} {w wr:World} {B0 b Bz gz By gy g9 g8 i k n:Nat} {Z:Ps} {s0:Ps × List (List Int)} {ps:List BJ} {x vh:Value} {L:List (Int × List Int)} {hs:List ByteArray} {mk:Value → Array Value} (h:LP V w B0 b Bz gz By gy g9 g8 Z i k s0 ps x L vh hs mk n wr) (hn:n < L.length) (hx:((L.getD n IA).1 == (k:Int)) = false):LP V w B0 b Bz gz By gy g9 g8 Z i k s0 ps x L vh hs mk (n + 1) wr:=by
 obtain ⟨q,v,col,h1,h2,h3⟩:=h
 refine ⟨q,v,col,h1,?_,h3⟩
 rw [drop_at hn,List.filter_cons,hx] at h2
 simpa using h2
theorem VA {k n q:Nat} {ps:List BJ} {L:List (Int × List Int)} (h:(L.drop n).filter (fun x => x.1 == (k:Int)) = Fg k (ps.drop q)) (hn:n < L.length) (hx:((L.getD n IA).1 == (k:Int)) = true) :
  q < ps.length ∧ L.getD n IA = ((k:Int),Ej (ps.getD q Ir)) ∧ (L.drop (n + 1)).filter (fun x => x.1 == (k:Int)) = Fg k (ps.drop (q + 1)):=by
 rw [drop_at hn,List.filter_cons,hx] at h
 simp only [if_true] at h
 by_cases hq:q < ps.length
 ·rw [List.drop_eq_getElem_cons hq] at h
  unfold Fg at h
  rw [List.map_cons] at h
  injection h with h1 h2
  refine ⟨hq,?_,h2⟩
  rw [h1,List.getD_eq_getElem?_getD,List.getElem?_eq_getElem hq]
  rfl
 ·rw [show ps.drop q = [] from List.drop_eq_nil_of_le (by omega)] at h
  cases h
end Go.Proofs.Ytnkkgofpifhoeaa.Pe
end
section
namespace Go.Proofs.Ytnkkgofpifhoeaa.Pe
open Go.RowKit Go.Proofs.Ytnkkgofpifhoeaa.Base Go.Proofs.Ytnkkgofpifhoeaa.Steps Go.Proofs.Ytnkkgofpifhoeaa.Lk Go.Proofs.YtnkkgofpifhoeaaW.PrintWords
def Wj:Array Value:=#[.slice none 0 0,.slice none 0 0]
theorem SX.start {ww w2 w3:World} {V:Nat → Prop} {b Ba ga Bb gb g9 g8:Nat} {UA UB:Nat → Prop} {XB Yp:Ps} {x:Value} {L:List (Int × List Int)} (hB:PW w2 Bb gb UB XB) (hap:∀ k,UA k → ¬ UB k) (hla:∀ k,UA k → k < w2.heap.size) (h9:w2.heap[g9]? = some (.cells Wj 94 (0,0))) (h8:w2.heap[g8]? = some (.cells Wj 94 (0,0))) (hne:g9 ≠ g8) (Ql:∀ k,k = g9 ∨ k = g8 → ¬ UA k ∧ ¬ UB k)
  (hA:PW w3 Ba ga UA Yp) (hk:Kept w2 w3 UA) (hx:MH.R 176 w3 w2.heap.size (fun _ => True) x L) (hb:b ≤ w2.heap.size) (hV:∀ k,V k → k < w2.heap.size ∧ ¬ UA k ∧ ¬ UB k ∧ k ≠ g9 ∧ k ≠ g8 ∧ w2.heap[k]? = ww.heap[k]?):∃ col,SX ww V b Ba ga Bb gb g9 g8 Yp XB x L (.slice none 0 0) (.slice none 0 0) [] [] Wj col w3:=by
 have l9:=AU h9
 have l8:=AU h8
 have hz:=hk.1
 refine ⟨fun i k => (i = 0 ∧ UA k) ∨ (i = 1 ∧ UB k) ∨ (i = 2 ∧ w2.heap.size ≤ k ∧ k < w3.heap.size) ∨ (i = 5 ∧ (k = g9 ∨ k = g8)) ∨ (i = 6 ∧ V k),?_,?_,?_,Kd.Cc _ _ _ _ _,Kd.Cc _ _ _ _ _,Ai h9 hk (Ql g9 (.inl rfl)).1,Ai h8 hk (Ql g8 (.inr rfl)).1,.inr (.inr (.inr (.inl ⟨rfl,.inl rfl⟩))),.inr (.inr (.inr (.inl ⟨rfl,.inr rfl⟩))),hne,fun i j k hi hj => ?_,fun i k hi => ?_,fun k hk' => ⟨.inr (.inr (.inr (.inr ⟨rfl,hk'⟩))),(hk.2 k (hV k hk').1 (hV k hk').2.1).trans (hV k hk').2.2.2.2.2⟩⟩
 ·obtain ⟨a,o,v,e1,e2⟩:=hA.at_
  exact ⟨⟨a,o,v,e1,fun k hk' => .inl ⟨rfl,e2 k hk'⟩⟩,fun k hk' => by
   rcases hk' with h | h | h | h | h
   ·exact hA.lt k h.2
   ·omega
   ·omega
   ·omega
   ·omega⟩
 ·have hB':=hB.kept hk (fun k hb' ha' => hap k ha' hb')
  obtain ⟨a,o,v,e1,e2⟩:=hB'.at_
  exact ⟨⟨a,o,v,e1,fun k hk' => .inr (.inl ⟨rfl,e2 k hk'⟩)⟩,fun k hk' => by
   rcases hk' with h | h | h | h | h
   ·omega
   ·exact hB'.lt k h.2
   ·omega
   ·omega
   ·omega⟩
 ·exact Kd.G8 (Kd.Az (Kd.CW hx) (fun k hk' => .inr (.inr (.inl ⟨rfl,hk'.2.1,hk'.2.2.1⟩)))) hb
 ·have kB:UB k → k < w2.heap.size:=hB.lt k
  have kA:UA k → k < w2.heap.size:=hla k
  have kV:V k → k < w2.heap.size ∧ k ≠ g9 ∧ k ≠ g8:=fun hv => ⟨(hV k hv).1,(hV k hv).2.2.2.1,(hV k hv).2.2.2.2.1⟩
  rcases hi with ⟨hi,h1⟩ | ⟨hi,h1⟩ | ⟨hi,h1⟩ | ⟨hi,h1⟩ | ⟨hi,h1⟩ <;> rcases hj with ⟨hj,h2⟩ | ⟨hj,h2⟩ | ⟨hj,h2⟩ | ⟨hj,h2⟩ | ⟨hj,h2⟩ <;> first | omega | exact (hap k h1 h2).elim | exact (hap k h2 h1).elim | exact ((Ql k h2).1 h1).elim | exact ((Ql k h2).2 h1).elim | exact ((Ql k h1).1 h2).elim | exact ((Ql k h1).2 h2).elim | (exact ((hV k h2).2.1 h1).elim) | (exact ((hV k h2).2.2.1 h1).elim) | (exact ((hV k h1).2.1 h2).elim) | (exact ((hV k h1).2.2.1 h2).elim) | (have:=kA h1; omega) | (have:=kA h2; omega) | (have:=kB h1; omega) | (have:=kB h2; omega) | (have:=kV h1; omega) | (have:=kV h2; omega)
 ·rcases hi with ⟨hi,h1⟩ | ⟨hi,h1⟩ | ⟨hi,h1⟩ | ⟨hi,h1⟩ | ⟨hi,h1⟩
  ·exact hA.lt k h1
  ·have:=hB.lt k h1; omega
  ·exact h1.2
  ·rcases h1 with h | h <;> omega
  ·have:=(hV k h1).1; omega
theorem SX.turn {ww:World} {V:Nat → Prop} {b Bz gz By gy g9 g8:Nat} {Z Y Y':Ps} {x x' v vh:Value} {L L':List (Int × List Int)} {gs hs:List ByteArray} {cs:Array Value} {col:Nat → Nat → Prop} {wr w':World} (h:SX ww V b Bz gz By gy g9 g8 Z Y x L v vh gs hs cs col wr) (hP:PW w' By gy (col 1) Y') (hk:Kept wr w' (col 1)) (hx:MH.R 176 w' wr.heap.size (fun _ => True) x' L') (hb:b ≤ wr.heap.size) :
  ∃ lu,SX ww V b By gy Bz gz g9 g8 Y' Z x' L' (.slice none 0 0) v [] gs cs lu w':=by
 have ap:∀ i,i ≠ 1 → ∀ k,col i k → ¬ col 1 k:=fun i hi k h1 h2 => hi (h.Dn i 1 k h1 h2)
 have hz:=hk.1
 have hlt:∀ i k,col i k → k < w'.heap.size:=fun i k hi => Nat.lt_of_lt_of_le (h.lt i k hi) hz
 refine ⟨fun i k => (i = 0 ∧ col 1 k) ∨ (i = 1 ∧ col 0 k) ∨ (i = 2 ∧ wr.heap.size ≤ k ∧ k < w'.heap.size) ∨ (i = 4 ∧ col 3 k) ∨ (i = 5 ∧ col 5 k) ∨ (i = 6 ∧ col 6 k),?_,?_,?_,Kd.Cc _ _ _ _ _,Kd.Az (Kd.BI h.g hk (ap 3 (by decide))) (fun k hk' => .inr (.inr (.inr (.inl ⟨rfl,hk'⟩)))),Ai h.a9 hk (ap 5 (by decide) _ h.c9),Ai h.a8 hk (ap 5 (by decide) _ h.c8),.inr (.inr (.inr (.inr (.inl ⟨rfl,h.c9⟩)))),.inr (.inr (.inr (.inr (.inl ⟨rfl,h.c8⟩)))),h.ne,fun i j k hi hj => ?_,fun i k hi => ?_,fun k hv => ⟨.inr (.inr (.inr (.inr (.inr ⟨rfl,(h.kv k hv).1⟩)))),(hk.2 k (h.lt 6 k (h.kv k hv).1) (ap 6 (by decide) k (h.kv k hv).1)).trans (h.kv k hv).2⟩⟩
 ·obtain ⟨a,o,v0,e1,e2⟩:=hP.at_
  exact ⟨⟨a,o,v0,e1,fun k hk' => .inl ⟨rfl,e2 k hk'⟩⟩,fun k hk' => by
   rcases hk' with h | h | h | h | h | h
   ·exact hlt 1 k h.2
   ·omega
   ·omega
   ·omega
   ·omega
   ·omega⟩
 ·obtain ⟨a,o,v0,e1,e2⟩:=(h.z.kept hk (ap 0 (by decide))).at_
  exact ⟨⟨a,o,v0,e1,fun k hk' => .inr (.inl ⟨rfl,e2 k hk'⟩)⟩,fun k hk' => by
   rcases hk' with h | h | h | h | h | h
   ·omega
   ·exact hlt 0 k h.2
   ·omega
   ·omega
   ·omega
   ·omega⟩
 ·exact Kd.G8 (Kd.Az (Kd.CW hx) (fun k hk' => .inr (.inr (.inl ⟨rfl,hk'.2.1,hk'.2.2.1⟩)))) hb
 ·have key:∀ c d,col c k → col d k → c = d:=fun c d => h.Dn c d k
  have kl:∀ c,col c k → k < wr.heap.size:=fun c => h.lt c k
  rcases hi with ⟨hi,h1⟩ | ⟨hi,h1⟩ | ⟨hi,h1⟩ | ⟨hi,h1⟩ | ⟨hi,h1⟩ | ⟨hi,h1⟩ <;> rcases hj with ⟨hj,h2⟩ | ⟨hj,h2⟩ | ⟨hj,h2⟩ | ⟨hj,h2⟩ | ⟨hj,h2⟩ | ⟨hj,h2⟩ <;> first | (subst hi hj; rfl) | (have:=key _ _ h1 h2; omega) | (have:=kl _ h1; omega) | (have:=kl _ h2; omega)
 ·rcases hi with ⟨hi,h1⟩ | ⟨hi,h1⟩ | ⟨hi,h1⟩ | ⟨hi,h1⟩ | ⟨hi,h1⟩ | ⟨hi,h1⟩
  ·exact hlt _ k h1
  ·exact hlt _ k h1
  ·exact h1.2
  ·exact hlt _ k h1
  ·exact hlt _ k h1
  ·exact hlt _ k h1
end Go.Proofs.Ytnkkgofpifhoeaa.Pe
end
