/- What the laws of a pair are proved with: links and pairs in memory, what their methods do, what a pair keeps to (part 27). -/
import Derived.Test.YtnkkgofpifhoeaaPG26
import Derived.Deep.LoopGhost
import Derived.Laws.StructEq
import Derived.Deep.MidRow
import Derived.ArgAppend
import Derived.LoopN
set_option linter.unusedSimpArgs false
set_option linter.unusedVariables false
set_option maxRecDepth 100000
set_option maxHeartbeats 16000000
section
namespace Go.Proofs.Ytnkkgofpifhoeaa.Pe
open Go.Proofs.Ytnkkgofpifhoeaa.Lk
structure Vw where
 tk:Int
 e:Lk
 q:Int
 ec:Int
 evs:List (Int × Bool)
def vw (X:Ps) (k:Nat):Vw:=⟨X.ticks,(X.pn k).e,(X.pn k).quiet,(X.pn k).echo,X.evs⟩
def N7 (v:Vw) (k:Nat) (p:BJ):Vw :=
 let t:=(BM v.e 1 p).2
 ⟨v.tk,(BM v.e 1 p).1,if t.up = true then 0 else if t.heard = true then 0 else v.q,if (t.heard && p.kind == 4) = true then p.stamp else if t.up = true then 0 else v.ec,(v.evs ++ (if t.down = true then [((k:Int),false)] else [])) ++ (if t.up = true then [((k:Int),true)] else [])⟩
theorem Wu (X:Ps) (k:Nat) (p:BJ):vw (EG X k 1 p) k = N7 (vw X k) k p:=by
 unfold EG N7 vw
 simp only
 generalize BM (X.pn k).e 1 p = r
 obtain ⟨L,⟨hd,up,dn,b⟩⟩:=r
 generalize (p.kind == 4) = k4
 cases hd <;> cases up <;> cases dn <;> cases k4 <;> simp [Iu,Ul,Gi,EM,EO,Ps.BP,Ps.set]
def LQ (v:Vw) (k:Nat) (ps:List BJ):Vw:=ps.foldl (fun v p => N7 v k p) v
theorem VJ (k:Nat) (ps:List BJ) (s:Ps × List (List Int)):vw (En k s ps).1 k = LQ (vw s.1 k) k ps:=by
 induction ps generalizing s with
 | nil => rfl
 | cons p ps ih =>
  have h:=ih (Po k s p)
  rw [show (Po k s p).1 = EG s.1 k 1 p from rfl,Wu] at h
  exact h
def JY (v:Vw):Vw:={ v with e:={ v.e with out:=[] } }
theorem Px (X:Ps) {k:Nat} (h:X.has k):vw (Be X X.nodes) k = JY (vw X k):=by
 have h1:=BR X X.nodes
 have h2:=Hg X X.nodes k h.2.1 h
 unfold vw JY
 rw [h1.1,h1.2.2.2,h2]
def FY (a b:Vw) (i k:Nat):Vw × Vw:=(LQ (JY a) k (LQ b i a.e.out).e.out,JY (LQ b i a.e.out))
theorem Wv {XA XB:Ps} {i k:Nat} (hi:XB.has i) (hk:XA.has k):(vw (DF XA XB i k).1.1 k,vw (DF XA XB i k).2.1 i) = FY (vw XA k) (vw XB i) i k:=by
 have h1:=VJ i (XA.pn k).e.out (XB,[])
 have hh:(En i (XB,[]) (XA.pn k).e.out).1.has i:=Ho (s:=(XB,[])) hi
 have h2:=VJ k ((En i (XB,[]) (XA.pn k).e.out).1.pn i).e.out (Be XA XA.nodes,[])
 have h3:=Px XA hk
 have h4:=Px (En i (XB,[]) (XA.pn k).e.out).1 hh
 unfold DF FY
 simp only at h1 h2 ⊢
 rw [h2,h4,h3,h1,show (vw XA k).e = (XA.pn k).e from rfl]
 rw [show ((En i (XB,[]) (XA.pn k).e.out).1.pn i).e = (vw (En i (XB,[]) (XA.pn k).e.out).1 i).e from rfl,h1]
def bQ (v:Vw) (k:Nat):Vw:=if v.e.phase = 2 then (if v.q + 1 > 10 then ⟨v.tk,ET (FV v.e),v.q + 1,v.ec,v.evs ++ [((k:Int),false)]⟩ else { v with q:=v.q + 1 }) else v
def iw (v:Vw):Vw:={ v with e:=IG v.e }
def iy (z:Nat × Nat) (v:Vw):Vw:=if v.e.phase = 2 then { v with e:=GK v.e v.tk v.ec z.1 z.2 } else v
def Gl (z:Nat × Nat) (v:Vw) (k:Nat):Vw:=iy z (iw (bQ { v with tk:=(v.tk + 1) % 4294967296 } k))
theorem bT (X:Ps) (k:Nat):vw (DD X k) k = bQ (vw X k) k:=by
 have e1:((FM X k).pn k) = { X.pn k with quiet:=(X.pn k).quiet + 1 }:=Ps.CU _ _ _
 unfold DD bQ
 by_cases hp:(X.pn k).e.phase = 2
 ·rw [if_pos hp,if_pos (show (vw X k).e.phase = 2 from hp)]
  by_cases hq:(X.pn k).quiet + 1 > 10
  ·rw [if_pos hq,if_pos (show (vw X k).q + 1 > 10 from hq)]
   unfold GY
   rw [if_pos (by rw [e1]; exact hp)]
   unfold vw Ps.BP
   simp only [Ps.CU,EO,e1]
   rfl
  ·rw [if_neg hq,if_neg (show ¬ (vw X k).q + 1 > 10 from hq)]
   unfold vw
   rw [e1]
   rfl
 ·rw [if_neg hp,if_neg (show ¬ (vw X k).e.phase = 2 from hp)]
theorem bU (X:Ps) (k:Nat):vw (Em X k) k = iw (vw X k):=by
 unfold Em iw vw Ps.BP
 simp only [Ps.CU]
 rfl
theorem bV (zr zi:Nat) (X:Ps) (k:Nat):vw (Gj zr zi X k) k = iy (zr,zi) (vw X k):=by
 unfold Gj iy
 by_cases hp:(X.pn k).e.phase = 2
 ·rw [if_pos hp,if_pos (show (vw X k).e.phase = 2 from hp)]
  unfold vw Ps.BP
  simp only [Ps.CU]
  rfl
 ·rw [if_neg hp,if_neg (show ¬ (vw X k).e.phase = 2 from hp)]
theorem N8 (zr zi:Nat) (X:Ps) (k:Nat):vw (Dx zr zi (Qh X) k) k = Gl (zr,zi) (vw X k) k:=by
 unfold Dx Gl
 rw [bV,bU,bT]
 rfl
theorem Wx (z:Nat → Nat × Nat) {X:Ps} {k:Nat} (hn:X.nodes = 2) (hx:X.has k) (ho:∀ j,X.has j → j = k):vw (Bh z X X.nodes) k = Gl (z k) (vw X k) k:=by
 rw [hn]
 have h1:=hx.1
 have h2:=hx.2.1
 by_cases hk:k = 1
 ·subst hk
  have hn2:¬ X.has 2:=fun h => absurd (ho 2 h) (by decide)
  show vw (if X.has 2 then _ else if X.has 1 then _ else _) 1 = _
  rw [if_neg hn2,if_pos hx]
  exact N8 _ _ X 1
 ·have hk2:k = 2:=by omega
  subst hk2
  have hn1:¬ X.has 1:=fun h => absurd (ho 1 h) (by decide)
  show vw (if X.has 2 then Dx (z 2).1 (z 2).2 (if X.has 1 then _ else _) 2 else _) 2 = _
  rw [if_pos hx,if_neg hn1]
  exact N8 _ _ X 2
def DX (t:Int) (bs:List BJ):Lk:=⟨1,2,t,1,t,true,[],0,4294967293,4294967293,0,bs⟩
def ZQ (d:Int) (o:List BJ):Lk:=⟨1,1,2,1,1,false,[],0,4294967293,4294967293,d,o⟩
def Py (x:Int):Prop:=0 ≤ x ∧ x < 4294967296
theorem KF:Py 0:=⟨by decide,by decide⟩
def Bt (t:Int) (p:BJ):Prop:=∃ st ec zr zi,p = ⟨4,t,1,t,0,4294967293,st,ec,zr,zi,[]⟩ ∧ Py st
def Eo (t:Int) (ev:List (Int × Bool)) (q:Int) (j:Nat) (v:Vw):Prop:=∃ tk bs ec,v = ⟨tk,DX t bs,q,ec,ev⟩ ∧ bs.length = j ∧ (∀ p ∈ bs,Bt t p) ∧ Py tk ∧ Py ec
def GM (ev:List (Int × Bool)) (d:Int) (o:List BJ) (v:Vw):Prop:=∃ tk q ec,v = ⟨tk,ZQ d o,q,ec,ev⟩ ∧ Py tk ∧ Py ec ∧ (0 ≤ q ∧ q ≤ 11)
theorem SH {t:Int} {bs:List BJ} {p:BJ} (h:Bt t p):BM (DX t bs) 1 p = (DX t bs,⟨true,false,false,[]⟩):=by
 obtain ⟨st,ec,zr,zi,rfl,_⟩:=h
 have ha:Dj (DX t bs) 1 t = 0:=by
  unfold Dj DX
  simp
 unfold BM
 rw [if_neg (by rw [ha]; simp [DX]),if_neg (show ¬ (4:Int) = 1 from by decide),if_pos ⟨rfl,ha,by simp [BU,DX]⟩]
 have hm:Lk.MV (DX t bs) ⟨4,t,1,t,0,4294967293,st,ec,zr,zi,[]⟩ = DX t bs:=by
  unfold Lk.MV
  rw [if_neg (fun h => absurd h.1 (show ¬ (4:Int) = 2 from by decide))]
 have hk:Lk.RN (DX t bs) ⟨4,t,1,t,0,4294967293,st,ec,zr,zi,[]⟩ = 0:=by
  show (IntKind.u32.wrap ((4294967293:Int) - 4294967293)).toNat = 0
  decide
 have hu:Lk.XM (DX t bs) ⟨4,t,1,t,0,4294967293,st,ec,zr,zi,[]⟩ = DX t bs:=by
  unfold Lk.XM Lk.UU
  rw [if_neg (show ¬ (4:Int) = 2 from by decide),hk,if_neg (by omega),hm]
 have hb:Lk.iP (DX t bs) ⟨4,t,1,t,0,4294967293,st,ec,zr,zi,[]⟩ = []:=by
  unfold Lk.iP
  rw [if_neg (fun h => absurd h.1 (show ¬ (4:Int) = 2 from by decide))]
 rw [hu,hb]
theorem Eo.take {t:Int} {ev:List (Int × Bool)} {q:Int} {j:Nat} {v:Vw} (h:Eo t ev q j v) (k:Nat) {p:BJ} (hp:Bt t p):Eo t ev 0 j (N7 v k p):=by
 obtain ⟨tk,bs,ec,rfl,h1,h2,h3,h4⟩:=h
 have ht:=SH (bs:=bs) hp
 obtain ⟨st,bW,zr,zi,rfl,hs⟩:=hp
 refine ⟨tk,bs,st,?_,h1,h2,h3,hs⟩
 unfold N7
 simp only [ht]
 simp
theorem Eo.feed {t:Int} {ev:List (Int × Bool)} {q:Int} {j:Nat} (k:Nat) (ps:List BJ) {v:Vw} (h:Eo t ev q j v) (hp:∀ p ∈ ps,Bt t p):Eo t ev (if ps.length = 0 then q else 0) j (LQ v k ps):=by
 induction ps generalizing v q with
 | nil => exact h
 | cons p ps ih =>
  have h1:=ih (h.take k (hp p List.mem_cons_self)) (fun x hx => hp x (List.mem_cons_of_mem _ hx))
  have e:(if ps.length = 0 then (0:Int) else 0) = 0:=by split <;> rfl
  rw [e] at h1
  rw [if_neg (by simp)]
  exact h1
theorem Eo.out {t:Int} {ev:List (Int × Bool)} {q:Int} {j:Nat} {v:Vw} (h:Eo t ev q j v):Eo t ev q 0 (JY v):=by
 obtain ⟨tk,bs,ec,rfl,h1,h2,h3,h4⟩:=h
 exact ⟨tk,[],ec,rfl,rfl,fun p hp => (by cases hp),h3,h4⟩
theorem Eo.jA {t:Int} {ev:List (Int × Bool)} {q:Int} {j:Nat} {v:Vw} (h:Eo t ev q j v):v.e.out.length = j ∧ ∀ p ∈ v.e.out,Bt t p:=by
 obtain ⟨tk,bs,ec,rfl,h1,h2,h3,h4⟩:=h
 exact ⟨h1,h2⟩
theorem Eo.swap {t:Int} {ea eb:List (Int × Bool)} {qa qb:Int} {ja jb:Nat} {a b:Vw} (ha:Eo t ea qa ja a) (hb:Eo t eb qb jb b) (i k:Nat):Eo t ea (if jb = 0 then qa else 0) 0 (FY a b i k).1 ∧ Eo t eb (if ja = 0 then qb else 0) 0 (FY a b i k).2:=by
 have h1:=hb.feed i a.e.out ha.jA.2
 rw [ha.jA.1] at h1
 have h2:=ha.out.feed k (LQ b i a.e.out).e.out h1.jA.2
 rw [h1.jA.1] at h2
 exact ⟨h2,h1.out⟩
theorem Py.step {x:Int} (h:Py x):Py ((x + 1) % 4294967296):=by unfold Py at *; omega
theorem Eo.tick {t:Int} (ht:0 < t ∧ t < 4294967296) {ev:List (Int × Bool)} {q:Int} {j:Nat} {v:Vw} (h:Eo t ev q j v) (k:Nat) {z:Nat × Nat} (hz:Num.Bc z.1 z.2 = true) (hq:q + 1 ≤ 10) (hj:j < 1024):Eo t ev (q + 1) (j + 1) (Gl z v k):=by
 obtain ⟨tk,bs,ec,rfl,h1,h2,h3,h4⟩:=h
 have hc:Nq (DX t bs) ((tk + 1) % 4294967296) ec z.1 z.2 = 0:=by
  unfold Nq Pk.Ah
  rw [if_neg (by decide),if_neg (by decide),if_neg (by decide),if_pos rfl]
  refine if_pos ?_
  unfold Pk.IZ
  rw [hz,Bool.true_and]
  exact decide_eq_true ⟨(show t ≠ 0 from by omega),(show (1:Int) > 0 from by decide),(show t > 0 from ht.1),rfl,rfl⟩
 have ht1:bQ ⟨(tk + 1) % 4294967296,DX t bs,q,ec,ev⟩ k = ⟨(tk + 1) % 4294967296,DX t bs,q + 1,ec,ev⟩:=by
  unfold bQ
  rw [if_pos (show (DX t bs).phase = 2 from rfl),if_neg (show ¬ q + 1 > 10 from by omega)]
 have ht2:IG (DX t bs) = DX t bs:=by
  unfold IG
  rw [if_neg (show ¬ (DX t bs).phase = 0 from (show ¬ (2:Int) = 0 from by decide)),if_pos ⟨rfl,rfl⟩]
  rfl
 refine ⟨(tk + 1) % 4294967296,bs ++ [Qg (DX t bs) ((tk + 1) % 4294967296) ec z.1 z.2],ec,?_,by rw [List.length_append,h1]; rfl,fun p hp => ?_,h3.step,h4⟩
 ·unfold Gl
  simp only
  rw [ht1]
  unfold iw iy
  simp only
  rw [ht2,if_pos (show (DX t bs).phase = 2 from rfl)]
  unfold GK
  rw [if_pos hc]
  unfold emit_
  rw [if_pos (show (DX t bs).out.length < 1024 from by show bs.length < 1024; omega)]
  rfl
 ·rcases List.mem_append.1 hp with hp | hp
  ·exact h2 p hp
  ·rw [List.mem_singleton.1 hp]
   exact ⟨_,_,_,_,rfl,h3.step⟩
def hi2:BJ:=CY (ZQ 0 [])
theorem Eo.cut {ev:List (Int × Bool)} {v:Vw} (h:Eo 1 ev 10 0 v) (k:Nat) (z:Nat × Nat):GM (ev ++ [((k:Int),false)]) 1 [hi2] (Gl z v k):=by
 obtain ⟨tk,bs,ec,rfl,h1,h2,h3,h4⟩:=h
 obtain rfl:=List.eq_nil_of_length_eq_zero h1
 exact ⟨(tk + 1) % 4294967296,11,ec,rfl,h3.step,h4,by decide⟩
theorem GM.out {ev:List (Int × Bool)} {d:Int} {o:List BJ} {v:Vw} (h:GM ev d o v):GM ev d [] (JY v):=by
 obtain ⟨tk,q,ec,rfl,h1,h2,h3⟩:=h
 exact ⟨tk,q,ec,rfl,h1,h2,h3⟩
theorem GM.VK {ev:List (Int × Bool)} {d:Int} {v:Vw} (h:GM ev d [] v) (hd:d = 0 ∨ d = 1) (k:Nat) (z:Nat × Nat):GM ev (d + 1) [] (Gl z v k):=by
 obtain ⟨tk,q,ec,rfl,h1,h2,h3⟩:=h
 rcases hd with rfl | rfl
 ·exact ⟨(tk + 1) % 4294967296,q,ec,rfl,h1.step,h2,h3⟩
 ·exact ⟨(tk + 1) % 4294967296,q,ec,rfl,h1.step,h2,h3⟩
theorem GM.Em {ev:List (Int × Bool)} {v:Vw} (h:GM ev 2 [] v) (k:Nat) (z:Nat × Nat):GM ev 0 [hi2] (Gl z v k):=by
 obtain ⟨tk,q,ec,rfl,h1,h2,h3⟩:=h
 exact ⟨(tk + 1) % 4294967296,q,ec,rfl,h1.step,h2,h3⟩
theorem GM.swap {ea eb:List (Int × Bool)} {da db:Int} {a b:Vw} (ha:GM ea da [] a) (hb:GM eb db [] b) (i k:Nat):GM ea da [] (FY a b i k).1 ∧ GM eb db [] (FY a b i k).2:=by
 obtain ⟨tk,q,ec,rfl,h1,h2,h3⟩:=ha
 obtain ⟨bY,q',bW,rfl,h1',h2',h3'⟩:=hb
 exact ⟨⟨tk,q,ec,rfl,h1,h2,h3⟩,⟨bY,q',bW,rfl,h1',h2',h3'⟩⟩
theorem N9:vw (iter (fresh 1 1 2) (fresh 2 1 2) 1 2 5).1 2 = ⟨0,DX 1 [],0,0,[(2,true)]⟩ ∧ vw (iter (fresh 1 1 2) (fresh 2 1 2) 1 2 5).2 1 = ⟨0,DX 1 [],0,0,[(1,true)]⟩:=⟨rfl,rfl⟩
end Go.Proofs.Ytnkkgofpifhoeaa.Pe
end
section
namespace Go.Proofs.Ytnkkgofpifhoeaa.Pe
open Go.RowKit Go.Proofs.Ytnkkgofpifhoeaa.Base Go.Proofs.Ytnkkgofpifhoeaa.Steps Go.Proofs.Ytnkkgofpifhoeaa.Lk Go.Proofs.YtnkkgofpifhoeaaW.PrintWords Go.Proofs.YtnkkgofpifhoeaaW.PrintLast
theorem Wy {wr:World} {B gp:Nat} {U:Nat → Prop} {X:Ps} (h:PW wr B gp U X) (hn:X.nodes ≤ 64) (hg:GX X) (hr:Rg X) (hl:X.evs.length ≤ 900000) :
  Calls Try.prog 56 #[.pointer (some ⟨gp,0,none⟩)] wr fun e w' => e = .returned (.tuple #[]) ∧ ∃ z,Zs z ∧ PW w' B gp (more U wr w') (Bh z X X.nodes) ∧ Kept wr w' U ∧ Below B wr w':=by
 obtain ⟨a,own,v,h1,h2⟩:=h.at_
 refine (We h1 hn hg hr hl).mono fun e w' hq => ?_
 obtain ⟨he,z,hz,hM⟩:=hq
 exact ⟨he,z,hz,h.mv h1 h2 hM⟩
section
variable {w0 wr w':World} {Ba ga Bb gb:Nat} {V:Nat → Prop} {XA XB:Ps}
theorem TW.left1 {Yp:Ps} {UA UB:Nat → Prop} (h1:PW wr Ba ga UA XA) (h2:PW wr Bb gb UB XB) (h3:∀ k,UA k → ¬ UB k) (hb:Below w0.heap.size w0 wr) (hlo:w0.heap.size ≤ Ba ∧ w0.heap.size ≤ Bb) (g1:PW w' Ba ga (more UA wr w') Yp) (g2:Kept wr w' UA) (g3:Below Ba wr w'):TW w0 Ba ga Bb gb (fun _ => False) Yp XB w' :=
 ⟨⟨more UA wr w',UB,g1,h2.kept g2 (fun k hb ha => h3 k ha hb),fun k ha hb => ha.elim (fun x => h3 k x hb) (fun x => by have:=h2.lt k hb; omega),fun k hk => hk.elim⟩,hb.trans (g3.mono hlo.1),hlo⟩
theorem Qp (h:TW w0 Ba ga Bb gb V XA XB wr) (hn:XA.nodes ≤ 64) (hg:GX XA) (hr:Rg XA) (hl:XA.evs.length ≤ 900000) :
  Calls Try.prog 56 #[.pointer (some ⟨ga,0,none⟩)] wr fun e w' => e = .returned (.tuple #[]) ∧ ∃ z,Zs z ∧ TW w0 Ba ga Bb gb (fun _ => False) (Bh z XA XA.nodes) XB w':=by
 obtain ⟨UA,UB,h1,h2,h3,h4⟩:=h.ex
 refine (Wy h1 hn hg hr hl).mono fun e w' hq => ?_
 obtain ⟨he,z,hz,g1,g2,g3⟩:=hq
 exact ⟨he,z,hz,TW.left1 h1 h2 h3 h.below h.lo g1 g2 g3⟩
theorem VL (h:TW w0 Ba ga Bb gb V XA XB wr) (hn:XA.nodes ≤ 64) (hg:GX XA):Calls Try.prog 58 #[.pointer (some ⟨ga,0,none⟩)] wr fun e w' => ∃ v,e = .returned v ∧ TW w0 Ba ga Bb gb (fun _ => False) (Be XA XA.nodes) XB w':=by
 obtain ⟨UA,UB,h1,h2,h3,h4⟩:=h.ex
 refine (Pm h1 hn hg).mono fun e w' hq => ?_
 obtain ⟨v,he,_,g1,g2,g3⟩:=hq
 have hs:=g2.1
 exact ⟨v,he,TW.left1 h1 h2 h3 h.below h.lo ⟨by obtain ⟨a,own,v,e1,e2⟩:=g1.at_; exact ⟨a,own,v,e1,fun k hk => .inl (e2 k hk)⟩,fun k hk => hk.elim (fun x => g1.lt k x) (fun x => x.2)⟩ g2 g3⟩
end
structure St (X:Ps) (m k:Nat):Prop where
 gx:GX X
 me:X.me = m
 nodes:X.nodes = 2
 two:m = 1 ∧ k = 2 ∨ m = 2 ∧ k = 1
theorem St.has {X:Ps} {me k:Nat} (h:St X me k):X.has k:=by
 have h1:=h.me
 have h2:=h.nodes
 unfold Ps.has
 rcases h.two with ⟨rfl,rfl⟩ | ⟨rfl,rfl⟩ <;> omega
theorem St.only {X:Ps} {me k:Nat} (h:St X me k) (j:Nat) (hj:X.has j):j = k:=by
 have h1:=h.me
 have h2:=h.nodes
 obtain ⟨a,b,c⟩:=hj
 rcases h.two with ⟨rfl,rfl⟩ | ⟨rfl,rfl⟩ <;> omega
def VM (v:Vw):Prop:=Py v.tk ∧ (0 ≤ v.q ∧ v.q ≤ 1000000) ∧ Py v.ec ∧ v.evs.length ≤ 1000
theorem St.rg {X:Ps} {me k:Nat} (h:St X me k) (hv:VM (vw X k)):Rg X:=⟨hv.1,fun j hj => by rw [h.only j hj]; exact ⟨hv.2.1,hv.2.2.1⟩⟩
theorem St.tick {X:Ps} {me k:Nat} (h:St X me k) (hv:VM (vw X k)) {z:Nat → Nat × Nat} (hz:Zs z):St (Bh z X X.nodes) me k ∧ vw (Bh z X X.nodes) k = Gl (z k) (vw X k) k:=by
 have hs:=Gg z X X.nodes
 exact ⟨⟨h.gx.Bh (h.rg hv) (fun j => (hz j).2) _,hs.2.1.trans h.me,hs.2.2.trans h.nodes,h.two⟩,Wx z h.nodes h.has h.only⟩
theorem St.out {X:Ps} {me k:Nat} (h:St X me k):St (Be X X.nodes) me k ∧ vw (Be X X.nodes) k = JY (vw X k):=by
 have hs:=BR X X.nodes
 exact ⟨⟨MO h.gx,hs.2.1.trans h.me,hs.2.2.1.trans h.nodes,h.two⟩,Px X h.has⟩
def LS (w:World) (Ba ga Bb gb:Nat) (PA PB:Vw → Prop) (wr:World):Prop:=∃ XA XB,St XA 1 2 ∧ St XB 2 1 ∧ PA (vw XA 2) ∧ PB (vw XB 1) ∧ TW w Ba ga Bb gb (fun _ => False) XA XB wr
section
variable {w wr:World} {Ba ga Bb gb:Nat} {PA PB QA QB:Vw → Prop}
theorem LS.below (h:LS w Ba ga Bb gb PA PB wr):Below w.heap.size w wr:=by
 obtain ⟨XA,XB,hA,hB,pA,pB,hT⟩:=h
 exact hT.below
theorem LS.mono (h:LS w Ba ga Bb gb PA PB wr) (hA:∀ v,PA v → QA v) (hB:∀ v,PB v → QB v):LS w Ba ga Bb gb QA QB wr:=by
 obtain ⟨XA,XB,h1,h2,h3,h4,h5⟩:=h
 exact ⟨XA,XB,h1,h2,hA _ h3,hB _ h4,h5⟩
theorem LS.OA (h:LS w Ba ga Bb gb PA PB wr) (hr:∀ v,PA v → VM v) (hQ:∀ v z,PA v → Num.Bc (z:Nat × Nat).1 z.2 = true → QA (Gl z v 2)):Calls Try.prog 56 #[.pointer (some ⟨ga,0,none⟩)] wr fun e w' => e = .returned (.tuple #[]) ∧ LS w Ba ga Bb gb QA PB w':=by
 obtain ⟨XA,XB,hA,hB,pA,pB,hT⟩:=h
 refine (Qp hT (by rw [hA.nodes]; decide) hA.gx (hA.rg (hr _ pA)) (Nat.le_trans (hr _ pA).2.2.2 (by decide))).mono fun e w' hq => ?_
 obtain ⟨he,z,hz,hT'⟩:=hq
 have ht:=hA.tick (hr _ pA) hz
 exact ⟨he,_,_,ht.1,hB,by rw [ht.2]; exact hQ _ _ pA (hz 2).1,pB,hT'⟩
theorem LS.OB (h:LS w Ba ga Bb gb PA PB wr) (hr:∀ v,PB v → VM v) (hQ:∀ v z,PB v → Num.Bc (z:Nat × Nat).1 z.2 = true → QB (Gl z v 1)):Calls Try.prog 56 #[.pointer (some ⟨gb,0,none⟩)] wr fun e w' => e = .returned (.tuple #[]) ∧ LS w Ba ga Bb gb PA QB w':=by
 obtain ⟨XA,XB,hA,hB,pA,pB,hT⟩:=h
 refine (Qp hT.turn (by rw [hB.nodes]; decide) hB.gx (hB.rg (hr _ pB)) (Nat.le_trans (hr _ pB).2.2.2 (by decide))).mono fun e w' hq => ?_
 obtain ⟨he,z,hz,hT'⟩:=hq
 have ht:=hB.tick (hr _ pB) hz
 exact ⟨he,_,_,hA,ht.1,pA,by rw [ht.2]; exact hQ _ _ pB (hz 1).1,hT'.turn⟩
theorem LS.outA (h:LS w Ba ga Bb gb PA PB wr) (hQ:∀ v,PA v → QA (JY v)):Calls Try.prog 58 #[.pointer (some ⟨ga,0,none⟩)] wr fun e w' => ∃ v,e = .returned v ∧ LS w Ba ga Bb gb QA PB w':=by
 obtain ⟨XA,XB,hA,hB,pA,pB,hT⟩:=h
 refine (VL hT (by rw [hA.nodes]; decide) hA.gx).mono fun e w' hq => ?_
 obtain ⟨v,he,hT'⟩:=hq
 exact ⟨v,he,_,_,hA.out.1,hB,by rw [hA.out.2]; exact hQ _ pA,pB,hT'⟩
theorem LS.nO (h:LS w Ba ga Bb gb PA PB wr) (hQ:∀ v,PB v → QB (JY v)):Calls Try.prog 58 #[.pointer (some ⟨gb,0,none⟩)] wr fun e w' => ∃ v,e = .returned v ∧ LS w Ba ga Bb gb PA QB w':=by
 obtain ⟨XA,XB,hA,hB,pA,pB,hT⟩:=h
 refine (VL hT.turn (by rw [hB.nodes]; decide) hB.gx).mono fun e w' hq => ?_
 obtain ⟨v,he,hT'⟩:=hq
 exact ⟨v,he,_,_,hA,hB.out.1,pA,by rw [hB.out.2]; exact hQ _ pB,hT'.turn⟩
theorem LS.swap (h:LS w Ba ga Bb gb PA PB wr) (rA:∀ v,PA v → VM v) (rB:∀ v,PB v → VM v) (hQ:∀ a b,PA a → PB b → QA (FY a b 1 2).1 ∧ QB (FY a b 1 2).2) :
  Calls Try.prog 52 #[.pointer (some ⟨ga,0,none⟩),.pointer (some ⟨gb,0,none⟩),.int .i64 1,.int .i64 2] wr fun e w' => (∃ v,e = .returned v) ∧ LS w Ba ga Bb gb QA QB w':=by
 obtain ⟨XA,XB,hA,hB,pA,pB,hT⟩:=h
 refine (MP hT 1 2 hB.has hA.has hA.gx hB.gx (by rw [hA.nodes]; decide) (by rw [hB.nodes]; decide) (Nat.le_trans (rA _ pA).2.2.2 (by decide)) (Nat.le_trans (rB _ pB).2.2.2 (by decide))).mono fun e w' hq => ?_
 obtain ⟨v0,v1,he,_,_,hT',_⟩:=hq
 have hg:=Qn hA.gx hB.gx hB.has hA.has
 have hn:=KD XA XB 1 2
 have hv:=Wv hB.has hA.has
 have hv1:=congrArg Prod.fst hv
 have hv2:=congrArg Prod.snd hv
 have hme:(DF XA XB 1 2).1.1.me = XA.me ∧ (DF XA XB 1 2).2.1.me = XB.me:=by
  unfold DF
  have h1:=DW 2 (Be XA XA.nodes,([]:List (List Int))) ((En 1 (XB,[]) (XA.pn 2).e.out).1.pn 1).e.out
  have h2:=BR XA XA.nodes
  have h3:=DW 1 (XB,([]:List (List Int))) (XA.pn 2).e.out
  have h4:=BR (En 1 (XB,[]) (XA.pn 2).e.out).1 (En 1 (XB,[]) (XA.pn 2).e.out).1.nodes
  exact ⟨h1.1.trans h2.2.1,h4.2.1.trans h3.1⟩
 have hq:=hQ _ _ pA pB
 exact ⟨⟨_,he⟩,_,_,⟨hg.1,hme.1.trans hA.me,hn.1.trans hA.nodes,hA.two⟩,⟨hg.2,hme.2.trans hB.me,hn.2.trans hB.nodes,hB.two⟩,(show vw _ 2 = _ from hv1) ▸ hq.1,(show vw _ 1 = _ from hv2) ▸ hq.2,hT'⟩
def W9 (v:Vw):Vw:={ v with evs:=[] }
theorem LS.Iz (h:LS w Ba ga Bb gb PA PB wr) {ea:List (Int × Bool)} (he:∀ v,PA v → v.evs = ea) (hQ:∀ v,PA v → QA (W9 v)):Calls Try.prog 53 #[.pointer (some ⟨ga,0,none⟩)] wr fun e w' => ∃ v ok,e = .returned v ∧ SY.R 99 w' Ba ok v ea ∧ LS w Ba ga Bb gb QA PB w':=by
 obtain ⟨XA,XB,hA,hB,pA,pB,hT⟩:=h
 refine (Hq hT).mono fun e w' hq => ?_
 obtain ⟨v,V',hv,hR,hT',_⟩:=hq
 rw [show XA.evs = ea from he _ pA] at hR
 exact ⟨v,V',hv,hR,{ XA with evs:=[] },XB,⟨hA.gx,hA.me,hA.nodes,hA.two⟩,hB,hQ _ pA,pB,hT'.less (fun k (hk:False) => hk.elim)⟩
theorem LS.Qq (h:LS w Ba ga Bb gb PA PB wr) {ea:List (Int × Bool)} (he:∀ v,PB v → v.evs = ea) (hQ:∀ v,PB v → QB (W9 v)):Calls Try.prog 53 #[.pointer (some ⟨gb,0,none⟩)] wr fun e w' => ∃ v ok,e = .returned v ∧ SY.R 99 w' Bb ok v ea ∧ LS w Ba ga Bb gb PA QB w':=by
 obtain ⟨XA,XB,hA,hB,pA,pB,hT⟩:=h
 refine (Hq hT.turn).mono fun e w' hq => ?_
 obtain ⟨v,V',hv,hR,hT',_⟩:=hq
 rw [show XB.evs = ea from he _ pB] at hR
 exact ⟨v,V',hv,hR,XA,{ XB with evs:=[] },hA,⟨hB.gx,hB.me,hB.nodes,hB.two⟩,pA,hQ _ pB,TW.turn (hT'.less (fun k (hk:False) => hk.elim))⟩
theorem Qr {X:Ps} {me k:Nat} (h:St X me k) (hp:(X.pn k).e.phase = 2):Gq X X.nodes = [(k:Int)]:=by
 have h1:=h.has
 rw [h.nodes]
 rcases h.two with ⟨h2,rfl⟩ | ⟨h2,rfl⟩
 ·have hn:¬ X.has 1:=fun h' => absurd (h.only 1 h') (by decide)
  show (([]:List Int) ++ (if X.has 1 ∧ _ then _ else [])) ++ (if X.has 2 ∧ _ then _ else []) = _
  rw [if_neg (fun h' => hn h'.1),if_pos ⟨h1,hp⟩]
  rfl
 ·have hn:¬ X.has 2:=fun h' => absurd (h.only 2 h') (by decide)
  show (([]:List Int) ++ (if X.has 1 ∧ _ then _ else [])) ++ (if X.has 2 ∧ _ then _ else []) = _
  rw [if_pos ⟨h1,hp⟩,if_neg (fun h' => hn h'.1)]
  rfl
theorem LS.nP (h:LS w Ba ga Bb gb PA PB wr) (hp:∀ v,PA v → v.e.phase = 2):Calls Try.prog 57 #[.pointer (some ⟨ga,0,none⟩)] wr fun e w' => ∃ A c,e = .returned (.slice A 1 c) ∧ LS w Ba ga Bb gb PA PB w':=by
 obtain ⟨XA,XB,hA,hB,pA,pB,hT⟩:=h
 refine (Pv hT (by rw [hA.nodes]; decide)).mono fun e w' hq => ?_
 obtain ⟨v,hv,hR,hT'⟩:=hq
 rw [Qr hA (hp _ pA)] at hR
 obtain ⟨A,c,hs⟩:=Kd.Am hR
 exact ⟨A,c,by rw [hv,hs]; rfl,_,_,hA,hB,pA,pB,hT'⟩
theorem LS.nR (h:LS w Ba ga Bb gb PA PB wr) (hp:∀ v,PB v → v.e.phase = 2):Calls Try.prog 57 #[.pointer (some ⟨gb,0,none⟩)] wr fun e w' => ∃ A c,e = .returned (.slice A 1 c) ∧ LS w Ba ga Bb gb PA PB w':=by
 obtain ⟨XA,XB,hA,hB,pA,pB,hT⟩:=h
 refine (Pv hT.turn (by rw [hB.nodes]; decide)).mono fun e w' hq => ?_
 obtain ⟨v,hv,hR,hT'⟩:=hq
 rw [Qr hB (hp _ pB)] at hR
 obtain ⟨A,c,hs⟩:=Kd.Am hR
 exact ⟨A,c,by rw [hv,hs]; rfl,_,_,hA,hB,pA,pB,hT'.turn⟩
theorem LS.Pz (h:LS w Ba ga Bb gb PA PB wr) {ph:Int} (hp:∀ v,PA v → v.e.phase = ph):Calls Try.prog 54 #[.pointer (some ⟨ga,0,none⟩),.int .i64 2] wr fun e w' => e = .returned (.int .i64 ph) ∧ wr = w':=by
 obtain ⟨XA,XB,hA,hB,pA,pB,hT⟩:=h
 refine (show Calls Try.prog 54 #[.pointer (some ⟨ga,0,none⟩),.int .i64 2] wr _ from KE hT 2 hA.has).mono fun e w' hq => ⟨by rw [hq.1,show (XA.pn 2).e.phase = ph from hp _ pA],hq.2⟩
theorem LS.Y4 (h:LS w Ba ga Bb gb PA PB wr) {ph:Int} (hp:∀ v,PB v → v.e.phase = ph):Calls Try.prog 54 #[.pointer (some ⟨gb,0,none⟩),.int .i64 1] wr fun e w' => e = .returned (.int .i64 ph) ∧ wr = w':=by
 obtain ⟨XA,XB,hA,hB,pA,pB,hT⟩:=h
 refine (show Calls Try.prog 54 #[.pointer (some ⟨gb,0,none⟩),.int .i64 1] wr _ from KE hT.turn 1 hB.has).mono fun e w' hq => ⟨by rw [hq.1,show (XB.pn 1).e.phase = ph from hp _ pB],hq.2⟩
end
end Go.Proofs.Ytnkkgofpifhoeaa.Pe
end
section
namespace Go.Proofs.Ytnkkgofpifhoeaa.Pe
open Go.Proofs.Ytnkkgofpifhoeaa.Lk
theorem Eo.rg {t:Int} {ev:List (Int × Bool)} {q:Int} {j:Nat} {v:Vw} (h:Eo t ev q j v) (hq:0 ≤ q ∧ q ≤ 1000000) (he:ev.length ≤ 1000):VM v:=by
 obtain ⟨tk,bs,ec,rfl,h1,h2,h3,h4⟩:=h
 exact ⟨h3,hq,h4,he⟩
theorem GM.rg {ev:List (Int × Bool)} {d:Int} {o:List BJ} {v:Vw} (h:GM ev d o v) (he:ev.length ≤ 1000):VM v:=by
 obtain ⟨tk,q,ec,rfl,h1,h2,h3⟩:=h
 exact ⟨h1,⟨h3.1,(show q ≤ 1000000 from by omega)⟩,h2,he⟩
theorem Eo.OC {t:Int} {ev:List (Int × Bool)} {q:Int} {j:Nat} {v:Vw} (h:Eo t ev q j v):Eo t [] q j (W9 v):=by
 obtain ⟨tk,bs,ec,rfl,h1,h2,h3,h4⟩:=h
 exact ⟨tk,bs,ec,rfl,h1,h2,h3,h4⟩
theorem GM.OC {ev:List (Int × Bool)} {d:Int} {o:List BJ} {v:Vw} (h:GM ev d o v):GM [] d o (W9 v):=by
 obtain ⟨tk,q,ec,rfl,h1,h2,h3⟩:=h
 exact ⟨tk,q,ec,rfl,h1,h2,h3⟩
theorem Eo.evs {t:Int} {ev:List (Int × Bool)} {q:Int} {j:Nat} {v:Vw} (h:Eo t ev q j v):v.evs = ev:=by
 obtain ⟨tk,bs,ec,rfl,_⟩:=h
 rfl
theorem GM.evs {ev:List (Int × Bool)} {d:Int} {o:List BJ} {v:Vw} (h:GM ev d o v):v.evs = ev:=by
 obtain ⟨tk,q,ec,rfl,_⟩:=h
 rfl
theorem Eo.phase {t:Int} {ev:List (Int × Bool)} {q:Int} {j:Nat} {v:Vw} (h:Eo t ev q j v):v.e.phase = 2:=by
 obtain ⟨tk,bs,ec,rfl,_⟩:=h
 rfl
theorem GM.phase {ev:List (Int × Bool)} {d:Int} {o:List BJ} {v:Vw} (h:GM ev d o v):v.e.phase = 1:=by
 obtain ⟨tk,q,ec,rfl,_⟩:=h
 rfl
def SV (k:Nat) (n:Int) (v:Vw):Prop:=(k ≤ 10 ∧ Eo 1 [] k 0 v) ∨ (11 ≤ k ∧ GM [(n,false)] (((k - 10) % 3:Nat):Int) [] v)
theorem SV.rg {k:Nat} {n:Int} {v:Vw} (h:SV k n v):VM v:=by
 rcases h with ⟨h1,h⟩ | ⟨h1,h⟩
 ·exact h.rg (by omega) (by decide)
 ·exact h.rg (Nat.le_of_ble_eq_true rfl)
theorem SV.tick {k:Nat} {n:Nat} {v:Vw} (h:SV k n v) {z:Nat × Nat} (hz:Num.Bc z.1 z.2 = true):SV (k + 1) n (JY (Gl z v n)):=by
 rcases h with ⟨h1,h⟩ | ⟨h1,h⟩
 ·by_cases hk:k = 10
  ·subst hk
   exact .inr ⟨by omega,(h.cut n z).out⟩
  ·exact .inl ⟨by omega,(by have h2:=(h.tick (by decide) n hz (by omega) (by omega)).out; rw [show ((k + 1:Nat):Int) = (k:Int) + 1 from by omega]; exact h2)⟩
 ·refine .inr ⟨by omega,?_⟩
  by_cases hm:(k - 10) % 3 = 2
  ·rw [hm] at h
   rw [show (k + 1 - 10) % 3 = 0 from by omega]
   exact (h.Em n z).out
  ·rw [show (((k + 1 - 10) % 3:Nat):Int) = (((k - 10) % 3:Nat):Int) + 1 from by omega]
   exact (h.VK (by omega) n z).out
def mA:Lk:=(XR (ZQ 0 [hi2]) (ZQ 0 [hi2])).1
def mB:Lk:=(XR (ZQ 0 [hi2]) (ZQ 0 [hi2])).2
def VN (v:Vw):Prop:=∃ tk,v = ⟨tk,mA,0,0,[(2,true)]⟩ ∧ Py tk
def VO (v:Vw):Prop:=∃ tk ec,v = ⟨tk,mB,0,ec,[(1,false)]⟩ ∧ Py tk ∧ Py ec
theorem Y5 {a b:Vw} (ha:GM [] 0 [hi2] a) (hb:GM [(1,false)] 0 [hi2] b):VN (FY a b 1 2).1 ∧ VO (FY a b 1 2).2:=by
 obtain ⟨tk,q,ec,rfl,h1,h2,h3⟩:=ha
 obtain ⟨bY,q',bW,rfl,h1',h2',h3'⟩:=hb
 exact ⟨⟨tk,rfl,h1⟩,⟨bY,bW,rfl,h1',h2'⟩⟩
theorem bZ {a b:Vw} (ha:VN a) (hb:VO b):Eo 2 [(2,true)] 0 0 (FY a b 1 2).1 ∧ Eo 2 [(1,false),(1,true)] 0 0 (FY a b 1 2).2:=by
 obtain ⟨tk,rfl,h1⟩:=ha
 obtain ⟨bY,bW,rfl,h1',h2'⟩:=hb
 exact ⟨⟨tk,[],0,rfl,rfl,fun p hp => (by cases hp),h1,KF⟩,⟨bY,[],0,rfl,rfl,fun p hp => (by cases hp),h1',KF⟩⟩
theorem VN.rg {v:Vw} (h:VN v):VM v:=by
 obtain ⟨tk,rfl,h1⟩:=h
 exact ⟨h1,(show (0:Int) ≤ 0 ∧ (0:Int) ≤ 1000000 from by decide),KF,(by decide:(1:Nat) ≤ 1000)⟩
theorem VO.rg {v:Vw} (h:VO v):VM v:=by
 obtain ⟨tk,ec,rfl,h1,h2⟩:=h
 exact ⟨h1,(show (0:Int) ≤ 0 ∧ (0:Int) ≤ 1000000 from by decide),h2,(by decide:(1:Nat) ≤ 1000)⟩
theorem Jj {t:Int} {ea eb:List (Int × Bool)} {q:Int} {j:Nat} (hq:q = 0 ∨ 0 < j) {a b:Vw} (ha:Eo t ea q j a) (hb:Eo t eb q j b):Eo t ea 0 0 (FY a b 1 2).1 ∧ Eo t eb 0 0 (FY a b 1 2).2:=by
 have h:=ha.swap hb 1 2
 have e:(if j = 0 then q else (0:Int)) = 0:=by split <;> omega
 rwa [e] at h
end Go.Proofs.Ytnkkgofpifhoeaa.Pe
end
section
namespace Go.Proofs.Ytnkkgofpifhoeaa.Pe
open Go.RowKit Go.Proofs.Ytnkkgofpifhoeaa.Base Go.Proofs.Ytnkkgofpifhoeaa.Steps Go.Proofs.Ytnkkgofpifhoeaa.Lk Go.Proofs.YtnkkgofpifhoeaaW.PrintWords Go.Proofs.YtnkkgofpifhoeaaW.PrintLast
def al (n:Nat):Ps × Ps:=iter (fresh 1 1 2) (fresh 2 1 2) 1 2 n
theorem MQ (n:Nat):GX (al n).1 ∧ GX (al n).2 ∧ (al n).1.has 2 ∧ (al n).2.has 1 ∧ (al n).1.nodes = 2 ∧ (al n).2.nodes = 2 ∧ (al n).1.evs.length ≤ 0 + 2048 * n ∧ (al n).2.evs.length ≤ 0 + 2048 * n:=VH (Ny 1 2) (Ny 2 2) (by decide) (by decide) n
theorem XC {X:Ps} {l:List (Int × Bool)} {k:Nat} (h:X.has k):Ps.has { X with evs:=l } k:=h
theorem Y6 {X:Ps} {l:List (Int × Bool)} (h:GX X):GX { X with evs:=l }:=h
def Y7:Ps:=JM { (al 5).1 with evs:=[] } 2 [120]
theorem Y8:(al 5).1.evs = [(2,true)] ∧ (al 5).2.evs = [(1,true)] ∧ J6 { (al 5).1 with evs:=[] } 2 [120] = 0 ∧ Gq Y7 2 = [2] ∧ (Y7.pn 2).e.phase = 2 ∧ (Y7.pn 2).e.queue.length = 1 ∧ Y7.nodes = 2 ∧ Y7.me = 1:=by decide +kernel
theorem XD (w:World):Calls Try.prog 49 #[] w fun e w' => e = .returned (.bool true) ∧ Below w.heap.size w w':=by
 go_enter Try.func49,Try.ntmps49
 go_wp2_with (first | (go_at_call 50; (have hz:Calls Try.prog 50 #[.int .i64 1,.int .i64 2,.int .u32 1] w _:=MM 1 2 (by decide) (by decide) w); (with_reducible refine hz.mono ?_); clear hz; rintro e w1 ⟨ga,rfl,bf,hb1⟩; (have Yt:=Lib.hid bf); (have HB1:=Lib.hid hb1); (clear bf hb1)) | (go_at_call 50; (have hz:Calls Try.prog 50 #[.int .i64 2,.int .i64 2,.int .u32 1] w1 _:=MM 2 2 (by decide) (by decide) w1); (with_reducible refine hz.mono ?_); clear hz; rintro e w2 ⟨gb,rfl,bg,hb2⟩; (have HT0:=Lib.hid (Qo w w1 w2 Yt.out HB1.out bg hb2)); (clear bg hb2)))
 generalize w1.heap.size = Bb at *
 go_loopw [5] (fun u wr => ∃ m:Nat,m ≤ 5 ∧ u = .int .i64 (m:Int) ∧ TW w w.heap.size ga Bb gb (fun _ => False) (al m).1 (al m).2 wr) (fun u wr => 5 - (intOf u).toNat)
 case atStart => exact ⟨0,by decide,rfl,HT0.out⟩
 case round =>
  obtain ⟨m,hm,rfl,hT⟩:=hrel
  have HT:=Lib.hid hT
  clear hT HT0 Yt HB1
  by_cases hlt:m < 5
  ·have hd:decide ((m:Int) < 5) = true:=by simp; omega
   have hv:=MQ m
   have HC:=Lib.hid (show Calls Try.prog 52 #[.pointer (some ⟨ga,0,none⟩),.pointer (some ⟨gb,0,none⟩),.int .i64 1,.int .i64 2] wr _ from MP HT.out 1 2 hv.2.2.2.1 hv.2.2.1 hv.1 hv.2.1 (by rw [hv.2.2.2.2.1]; decide) (by rw [hv.2.2.2.2.2.1]; decide) (by have:=hv.2.2.2.2.2.2.1; omega) (by have:=hv.2.2.2.2.2.2.2; omega))
   clear hv
   go_wp2_with (go_at_call 52; (have hc:=HC.out); (with_reducible refine hc.mono ?_); clear hc; rintro e w5 ⟨v0,v1,rfl,-,hr,bn,hk5⟩; (have nS:=Lib.hid bn); (clear hr bn hk5))
   go_roundw
   case rel => exact ⟨m + 1,by omega,by go_num,nS.out⟩
   case measure => simp [intOf]; omega
  ·have hd:decide ((m:Int) < 5) = false:=by simp; omega
   have hme:m = 5:=by omega
   subst hme
   have hv:=MQ 5
   have HV:=Lib.hid hv
   have HE:=Lib.hid Y8
   clear hv
   have hconv:=fun W => Lib.run_convert_bytes_const (P:=Try.prog) W 22 5 #[.int .u8 120] 1 1 Try.underlying22 Try.underlying5
   go_wp2_with (first | (go_at_call 53; (have hc:=Hq HT.out); (with_reducible refine hc.mono ?_); clear hc; rintro e w6 ⟨v,V6,rfl,hR,rE,hK6⟩; (rw [HE.out.1] at hR); (obtain ⟨A6,c6,hv6⟩:=Kd.Am hR); (rw [show ([((2:Int),true)]:List (Int × Bool)).length = 1 from rfl] at hv6); (subst hv6); (have bu:=Lib.hid hR); (have rF:=Lib.hid rE); (clear hR rE hK6)) | (go_at_call 53; (have hc:=Hq rF.out.turn); (with_reducible refine hc.mono ?_); clear hc; rintro e w7 ⟨v,V7,rfl,hR,Sj,hK7⟩; (rw [HE.out.2.1] at hR); (obtain ⟨A7,c7,hv7⟩:=Kd.Am hR); (rw [show ([((1:Int),true)]:List (Int × Bool)).length = 1 from rfl] at hv7); (subst hv7); (have rG:=Lib.hid hR); (have bz:=Lib.hid (Kd.BI bu.out hK7 (fun k hk hn => hn (.inr hk)))); (have iY:=Lib.hid Sj.turn); (clear hR Sj hK7 bu)))
   have hb8:Below w7.heap.size w7 (w7.alloc (.cells #[.int .u8 120] 5 (1,2))):=(Below.refl _ _).alloc (Nat.le_refl _) _
   have HS:=Lib.hid (Ws (iY.out.sub hb8) 2 (XC HV.out.2.2.1) (Y6 HV.out.1) (Nat.zero_le _) [120] (some ⟨w7.heap.size,0,none⟩) 1 (Ya w7))
   have bu:=Lib.hid (Kd.Eb bz.out hb8)
   have rH:=Lib.hid (Kd.Eb rG.out hb8)
   clear bz rG rF iY HT hb8 hconv
   refine (show Calls Try.prog 51 #[.pointer (some ⟨ga,0,none⟩),.int .i64 2,.slice (some ⟨w7.heap.size,0,none⟩) 1 1] (w7.alloc (.cells #[.int .u8 120] 5 (1,2))) _ from HS.out).mono ?_
   rintro e w9 ⟨rfl,nT,hK9⟩
   have h6:=Kd.BI bu.out hK9 (fun k hk hn => hn (.inl (.inr hk)))
   have h7:=Kd.BI rH.out hK9 (fun k hk hn => hn (.inr hk))
   obtain ⟨g6,IE,rJ,rM⟩:=Iy h6 0 (by decide)
   obtain ⟨g7,RJ,rO,zx⟩:=Iy h7 0 (by decide)
   subst IE RJ
   have a0:w9.cell? ⟨g6,0,none⟩ = some (.int .i64 2):=rJ
   have a1:w9.cell? ⟨g6,1,none⟩ = some (.bool true):=rM
   have b0:w9.cell? ⟨g7,0,none⟩ = some (.int .i64 1):=rO
   rw [show JM { (al 5).1 with evs:=[] } 2 [120] = Y7 from rfl] at nT
   have Y0:=Lib.hid nT
   have hup:=Pv Y0.out (by rw [HE.out.2.2.2.2.2.2.1]; decide)
   rw [HE.out.2.2.2.2.2.2.1,HE.out.2.2.2.1] at hup
   have zy:=Lib.hid hup
   have rP:Y7.has 2:=⟨by decide,by rw [HE.out.2.2.2.2.2.2.1]; decide,by rw [HE.out.2.2.2.2.2.2.2]; decide⟩
   have rQ:=Lib.hid rP
   rw [HE.out.2.2.1]
   clear nT hK9 h6 h7 rJ rM rO zx hup rP HS bu rH
   go_wp2_with (first | (go_at_call 57; (have hc:=zy.out); (with_reducible refine hc.mono ?_); clear hc; rintro e w10 ⟨v,rfl,hR,XE⟩; (obtain ⟨A10,c10,cO⟩:=Kd.Am hR); (rw [show ([(2:Int)]:List Int).length = 1 from rfl] at cO); (subst cO); (have nU:=Lib.hid (KE XE 2 rQ.out)); (have nV:=Lib.hid (VI XE 2 rQ.out)); (have HBE:=Lib.hid XE.below); (clear hR XE)) | (go_at_call 54; (refine (show Calls Try.prog 54 #[.pointer (some ⟨ga,0,none⟩),.int .i64 2] w10 _ from nU.out).mono ?_); rintro e EX ⟨rfl,rfl⟩; (rw [HE.out.2.2.2.2.1])) | (go_at_call 55; (refine (show Calls Try.prog 55 #[.pointer (some ⟨ga,0,none⟩),.int .i64 2] w10 _ from nV.out).mono ?_); rintro e EX ⟨rfl,rfl⟩; (rw [HE.out.2.2.2.2.2.1])))
   go_ret
   exact ⟨rfl,HBE.out⟩
end Go.Proofs.Ytnkkgofpifhoeaa.Pe
end
