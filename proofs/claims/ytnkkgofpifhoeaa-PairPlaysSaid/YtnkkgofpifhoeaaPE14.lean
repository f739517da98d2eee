/- What the laws of a pair are proved with: links and pairs in memory, what their methods do, what a pair keeps to (part 14). -/
import Derived.Test.YtnkkgofpifhoeaaPE13
import Derived.Deep.Cut
set_option linter.unusedSimpArgs false
set_option linter.unusedVariables false
set_option maxRecDepth 100000
set_option maxHeartbeats 16000000
section
namespace Go.Proofs.Ytnkkgofpifhoeaa.Rf
open Go.Proofs.Ytnkkgofpifhoeaa.Pk Go.RowKit Go.Proofs.Ytnkkgofpifhoeaa.Base Go.Proofs.Ytnkkgofpifhoeaa.Steps Go.Proofs.Ytnkkgofpifhoeaa.Lk Go.Proofs.YtnkkgofpifhoeaaW.PrintWords Go.Proofs.YtnkkgofpifhoeaaW.PrintLast
theorem XQ {S:Nat → Prop} {w:World} (hS:∀ k,S k → k < w.heap.size) {L:Lk} (hok:L.Ok) {nx:Int} {Aq:Option Addr} {cq:Nat} {Ao:Option Addr} {co:Nat} (h:RE S w L nx Aq cq Ao co) (AB:Int) (p:Bz) (Ab:Option Addr) (cb:Nat) (hr:0 ≤ p.mine ∧ 0 ≤ p.AB ∧ 0 ≤ p.yours ∧ 0 ≤ p.seq ∧ p.zr < 18446744073709551616 ∧ p.zi < 18446744073709551616) (hab:0 ≤ p.AV ∧ p.AV < 4294967296) (hc:Bg p.kind p.mine p.AB p.yours p.seq p.AV p.stamp p.echo p.zr p.zi p.body.length = 0) (hb:(AB == 0) = false) (hbd:Gl S w Ab p.body) (hpl:p.body.length ≤ 1000)
  (hq0:(L.phase == 0) = false) (hq2:(L.phase != 2) = false) (hp:L.phase ≠ 0) (hk:(p.kind == 1) = false) (dH:¬ AB < L.AB ∧ decide (AB < L.AB) = false ∧ (AB == L.AB) = true ∧ ¬ p.mine < L.yours ∧ decide (p.mine < L.yours) = false ∧ (p.mine == L.yours) = true) (hm:BI L p = true)
  (kn:Nat) (hkk:IntKind.u32.wrap (p.AV - L.base) = kn) (xe:Int) (hxe:0 ≤ xe ∧ xe < 4294967296) (N R:Lk) (TB:List Int) (hN:(decide ((kn:Int) ≥ 1) = false ∧ Hid (N = { L with expected:=xe })) ∨ (decide ((kn:Int) ≥ 1) = true ∧ decide ((kn:Int) ≤ L.sent) = false ∧ Hid (N = { L with expected:=xe })) ∨ (decide ((kn:Int) ≥ 1) = true ∧ decide ((kn:Int) ≤ L.sent) = true ∧ Hid (kn ≤ L.queue.length ∧ (kn:Int) ≤ L.sent) ∧ Hid (N = BL (CZ { L with expected:=xe } kn)))) (hD:((p.kind == 2) = false ∧ xe = L.expected ∧ Hid (TB = []) ∧ Hid (R = N))) :
  Calls Try.prog 119 #[EV L nx Aq L.queue.length cq Ao L.out.length co,.int .u32 AB,.agg #[.int .i64 p.kind,.int .u32 p.mine,.int .u32 p.AB,.int .u32 p.yours,.int .u32 p.seq,.int .u32 p.AV,.int .u32 p.stamp,.int .u32 p.echo,.complex .f64 p.zr p.zi,.slice Ab p.body.length cb]] w fun e w' => (∃ v A c,e = .returned (.tuple #[v,.agg #[.bool true,.bool false,.bool false,.slice A TB.length c],.int .i64 0]) ∧ RV S w' R v ∧ Gl S w' A TB ∧ TB.length ≤ c) ∧ Below w.heap.size w w':=by
 obtain ⟨hp1,hd1,hd2,hp3,hd3,hd4⟩:=dH
 have hkb:0 ≤ kn ∧ (kn:Int) < 4294967296:=by have h1:=Lk.wrap32 (p.AV - L.base); rw [hkk] at h1; omega
 have kW:=Lib.hid (show Lk.Ok { L with expected:=xe } from ⟨hok.own,hok.phase,hok.token,hok.AB,hok.yours,hok.queue,hok.rows,hok.sent,hok.base,hxe,hok.idle,hok.out⟩)
 have HBB:=Lib.hid hok.base
 have HSQ:=Lib.hid hok.sent
 have hsn:=hok.sent
 have VK:=hok.queue
 have HKK:=Lib.hid hkk
 have HAB:=Lib.hid hab
 have HM:=Lib.hid hm
 have HP:=Lib.hid hp
 have BB:=Lib.hid hbd
 have VP:=Lib.hid hpl
 have zx:=Lib.hid hN
 have HXE:=Lib.hid hxe
 have HE:=Lib.hid h
 have HS:=Lib.hid hS
 have HR:=Lib.hid hr
 have HC:=Lib.hid hc
 have Df:=Try.underlying78
 have CP:=Try.underlying27
 have PK:=Try.underlying194
 clear h hS hok hr hc hkk hab hm hp hbd hpl hxe hN
 obtain ⟨hk2,rfl,wV,Le⟩:=hD
 all_goals exact Z0
inductive Ag (L:Lk) (AB mine:Int):Int → Prop
 | i (h:AB < L.AB) (h2:decide (AB < L.AB) = true) (h3:(AB == L.AB) = false):Ag L AB mine (-1)
 | ii (h:¬ AB < L.AB) (h2:decide (AB < L.AB) = false) (h3:(AB == L.AB) = true) (h4:mine < L.yours) (h5:decide (mine < L.yours) = true) (h6:(mine == L.yours) = false):Ag L AB mine (-1)
 | o (h:¬ AB < L.AB) (h2:decide (AB < L.AB) = false) (h3:(AB == L.AB) = true) (h4:¬ mine < L.yours) (h5:decide (mine < L.yours) = false) (h6:(mine == L.yours) = true):Ag L AB mine 0
 | iii (h:¬ AB < L.AB) (h2:decide (AB < L.AB) = false) (h3:(AB == L.AB) = true) (h4:¬ mine < L.yours) (h5:decide (mine < L.yours) = false) (h6:(mine == L.yours) = false):Ag L AB mine 1
 | iv (h:¬ AB < L.AB) (h2:decide (AB < L.AB) = false) (h3:(AB == L.AB) = false):Ag L AB mine 1
theorem ag (L:Lk) (AB mine:Int):Ag L AB mine (Bo L AB mine):=by
 by_cases h1:AB < L.AB
 ·have e:Bo L AB mine = -1:=by unfold Bo; simp [h1]
  rw [e]; exact .i h1 (by simp [h1]) (by simp; omega)
 ·by_cases h2:AB = L.AB
  ·by_cases h3:mine < L.yours
   ·have e:Bo L AB mine = -1:=by unfold Bo; simp [h1,h2,h3]
    rw [e]; exact .ii h1 (by simp [h1]) (by simp [h2]) h3 (by simp [h3]) (by simp; omega)
   ·by_cases h4:mine = L.yours
    ·have e:Bo L AB mine = 0:=by unfold Bo; simp [h1,h2,h3,h4]
     rw [e]; exact .o h1 (by simp [h1]) (by simp [h2]) h3 (by simp [h3]) (by simp [h4])
    ·have e:Bo L AB mine = 1:=by unfold Bo; simp [h1,h2,h3,h4]
     rw [e]; exact .iii h1 (by simp [h1]) (by simp [h2]) h3 (by simp [h3]) (by simp [h4])
  ·have e:Bo L AB mine = 1:=by unfold Bo; simp [h1,h2]
   rw [e]; exact .iv h1 (by simp [h1]) (by simp [h2])
theorem Ve {S:Nat → Prop} {w:World} {args:Array Value} {R:Lk × Tk} (hb:R.2.body = []) (h:Calls Try.prog 119 args w fun e w' => (∃ v,e = .returned (.tuple #[v,gQ R.2 (.slice none 0 0),.int .i64 0]) ∧ RV S w' R.1 v) ∧ Below w.heap.size w w') :
  Calls Try.prog 119 args w fun e w' => (∃ v A c,e = .returned (.tuple #[v,gQ R.2 (.slice A R.2.body.length c),.int .i64 0]) ∧ RV S w' R.1 v ∧ Gl S w' A R.2.body ∧ R.2.body.length ≤ c) ∧ Below w.heap.size w w':=by
 refine Go.Calls.mono h ?_
 rintro e w' ⟨⟨v,he,hv⟩,hbl⟩
 rw [hb]
 exact ⟨⟨v,none,0,he,hv,Gl.nil _ _,Nat.le_refl _⟩,hbl⟩
theorem Uh {L:Lk} (hok:L.Ok) (h0:L.phase ≠ 0) (AB:Int) (p:Bz) (hk:p.kind = 1) (ha:Bo L AB p.mine ≠ -1) (same:Bool) (hs:same = decide (Bo L AB p.mine = 0)):Bf L AB p = JH L AB p same ∧ (JH L AB p same).2.body = []:=by
 have DT:=hok.phase
 subst hs
 unfold Bf JH
 rw [if_neg (fun h => h.elim h0 ha),if_pos hk]
 by_cases h1:L.phase = 1
 ·rw [if_pos h1,if_neg (show ¬ L.phase = 2 by omega)]
  split <;> exact ⟨rfl,rfl⟩
 ·rw [if_neg h1,if_pos (show L.phase = 2 by omega)]
  by_cases h2:Bo L AB p.mine = 0
  ·rw [if_pos h2,if_pos (show decide (Bo L AB p.mine = 0) = true from by simpa using h2)]; exact ⟨rfl,rfl⟩
  ·rw [if_neg h2,if_neg (show ¬ decide (Bo L AB p.mine = 0) = true from by simpa using h2)]
   split <;> exact ⟨rfl,rfl⟩
theorem tZ {S:Nat → Prop} {w:World} (hS:∀ k,S k → k < w.heap.size) {L:Lk} (hok:L.Ok) {nx:Int} {Aq:Option Addr} {cq:Nat} {Ao:Option Addr} {co:Nat} (h:RE S w L nx Aq cq Ao co) (AB:Int) (p:Bz) (Ab:Option Addr) (cb:Nat) (hb0:AB ≠ 0) (Oi:p.Good) (hbd:Gl S w Ab p.body) :
  Calls Try.prog 119 #[EV L nx Aq L.queue.length cq Ao L.out.length co,.int .u32 AB,.agg #[.int .i64 p.kind,.int .u32 p.mine,.int .u32 p.AB,.int .u32 p.yours,.int .u32 p.seq,.int .u32 p.AV,.int .u32 p.stamp,.int .u32 p.echo,.complex .f64 p.zr p.zi,.slice Ab p.body.length cb]] w fun e w' => (∃ v A c,e = .returned (.tuple #[v,gQ (Bf L AB p).2 (.slice A (Bf L AB p).2.body.length c),.int .i64 0]) ∧ RV S w' (Bf L AB p).1 v ∧ Gl S w' A (Bf L AB p).2.body ∧ (Bf L AB p).2.body.length ≤ c) ∧ Below w.heap.size w w':=by
 have DT:=hok.phase
 have hr:0 ≤ p.mine ∧ 0 ≤ p.AB ∧ 0 ≤ p.yours ∧ 0 ≤ p.seq ∧ p.zr < 18446744073709551616 ∧ p.zi < 18446744073709551616:=⟨Oi.XZ.mine.1,Oi.XZ.AB.1,Oi.XZ.yours.1,Oi.XZ.seq.1,Oi.XZ.zr,Oi.XZ.zi⟩
 have hc:=Oi.check
 have hb:(AB == 0) = false:=by simp [hb0]
 have hag:=ag L AB p.mine
 by_cases h0:L.phase = 0
 ·have e:Bf L AB p = (L,⟨false,false,false,[]⟩):=if_pos (.inl h0)
  rw [e]
  refine Ve (R:=(L,⟨false,false,false,[]⟩)) rfl (OE hS hok h AB p Ab cb hr hc hb (.inl ⟨by simp [h0],?_⟩))
  generalize Bo L AB p.mine = a at hag
  cases hag with
  | i h1 h2 h3 => exact .inl ⟨⟨h1,h2⟩,h3⟩
  | ii h1 h2 h3 h4 h5 h6 => exact .inr (.inl ⟨⟨h1,h2⟩,h3,⟨h4,h5⟩,h6⟩)
  | o h1 h2 h3 h4 h5 h6 => exact .inr (.inr (.inl ⟨⟨h1,h2⟩,h3,⟨h4,h5⟩,h6⟩))
  | iii h1 h2 h3 h4 h5 h6 => exact .inr (.inr (.inr (.inl ⟨⟨h1,h2⟩,h3,⟨h4,h5⟩,h6⟩)))
  | iv h1 h2 h3 => exact .inr (.inr (.inr (.inr ⟨⟨h1,h2⟩,h3⟩)))
 have hq0:(L.phase == 0) = false:=by simp [h0]
 by_cases ho:Bo L AB p.mine = -1
 ·have e:Bf L AB p = (L,⟨false,false,false,[]⟩):=if_pos (.inr ho)
  rw [e]
  refine Ve (R:=(L,⟨false,false,false,[]⟩)) rfl (OE hS hok h AB p Ab cb hr hc hb (.inr ⟨hq0,?_⟩))
  rw [ho] at hag
  cases hag with
  | i h1 h2 h3 => exact .inl ⟨⟨h1,h2⟩,h3⟩
  | ii h1 h2 h3 h4 h5 h6 => exact .inr ⟨⟨h1,h2⟩,h3,⟨h4,h5⟩,h6⟩
 by_cases hk:p.kind = 1
 ·obtain ⟨e1,e2⟩:=Uh hok h0 AB p hk ho _ rfl
  rw [e1]
  refine Ve e2 (SA hS hok h AB p Ab cb hr hc hb hq0 h0 (by simp [hk]) _ ?_)
  generalize Bo L AB p.mine = a at hag ho
  cases hag with
  | i h1 h2 h3 => exact absurd rfl ho
  | ii h1 h2 h3 h4 h5 h6 => exact absurd rfl ho
  | o h1 h2 h3 h4 h5 h6 => exact .inl ⟨by decide,⟨h1,h2⟩,h3,⟨h4,h5⟩,h6⟩
  | iii h1 h2 h3 h4 h5 h6 => exact .inr ⟨by decide,.inl ⟨⟨h1,h2⟩,h3,⟨h4,h5⟩,h6⟩⟩
  | iv h1 h2 h3 => exact .inr ⟨by decide,.inr ⟨⟨h1,h2⟩,h3⟩⟩
 have hk1:(p.kind == 1) = false:=by simp [hk]
 by_cases hu:L.phase = 2 ∧ Bo L AB p.mine = 0 ∧ BI L p = true
 ·obtain ⟨h2,ha,hm⟩:=hu
  have e:Bf L AB p = (KC L p,⟨true,false,false,OV L p⟩):=by
   unfold Bf
   rw [if_neg (fun h => h.elim h0 ho),if_neg hk,if_pos ⟨h2,ha,hm⟩]
  rw [e]
  have hkk:IntKind.u32.wrap (p.AV - L.base) = (Gu L p:Int):=(Int.toNat_of_nonneg (Lk.wrap32 _).1).symm
  rw [ha] at hag
  cases hag with
  | o g1 g2 g3 g4 g5 g6 =>
  have hq2:(L.phase != 2) = false:=by simp [h2]
  have hL:∀ x:Int,({ L with expected:=x }:Lk).Ok → True:=fun _ _ => trivial
  have hs:=hok.sent
  have hx:=hok.expected
  generalize hkn:Gu L p = kn at hkk
  have hM:Lk.FU L p = { L with expected:=if p.kind = 2 ∧ p.seq = L.expected then (L.expected + 1) % 4294967296 else L.expected }:=by
   unfold Lk.FU
   split <;> rfl
  have hN:∀ xe:Int,Lk.FU L p = { L with expected:=xe } → (decide ((kn:Int) ≥ 1) = false ∧ Hid (Je L p = { L with expected:=xe })) ∨ (decide ((kn:Int) ≥ 1) = true ∧ decide ((kn:Int) ≤ L.sent) = false ∧ Hid (Je L p = { L with expected:=xe })) ∨ (decide ((kn:Int) ≥ 1) = true ∧ decide ((kn:Int) ≤ L.sent) = true ∧ Hid (kn ≤ L.queue.length ∧ (kn:Int) ≤ L.sent) ∧ Hid (Je L p = BL (CZ { L with expected:=xe } kn))):=fun xe hxe => by
   unfold Je
   rw [hkn,hxe]
   by_cases c1:1 ≤ kn
   ·by_cases c2:(kn:Int) ≤ L.sent
    ·exact .inr (.inr ⟨by simp; omega,by simp [c2],Lib.hid ⟨by omega,c2⟩,Lib.hid (if_pos ⟨c1,c2⟩)⟩)
    ·exact .inr (.inl ⟨by simp; omega,by simp; omega,Lib.hid (if_neg (fun h => c2 h.2))⟩)
   ·exact .inl ⟨by simp; omega,Lib.hid (if_neg (fun h => c1 h.1))⟩
  by_cases hd:p.kind = 2
  ·have hR:KC L p = emit_ (Je L p) (Hy (Je L p)):=if_pos hd
   by_cases Jc:p.seq = L.expected
   ·rw [if_pos ⟨hd,Jc⟩] at hM
    exact XO hS hok h AB p Ab cb hr Oi.XZ.AV hc hb hbd Oi.len hq0 hq2 h0 hk1 ⟨g1,g2,g3,g4,g5,g6⟩ hm kn hkk _ (by omega) (Je L p) (KC L p) (OV L p) (hN _ hM) ⟨by simp [hd],by simp [Jc],rfl,Lib.hid (if_pos ⟨hd,Jc⟩),Lib.hid hR⟩
   ·rw [if_neg (fun h => Jc h.2)] at hM
    exact XP hS hok h AB p Ab cb hr Oi.XZ.AV hc hb hbd Oi.len hq0 hq2 h0 hk1 ⟨g1,g2,g3,g4,g5,g6⟩ hm kn hkk _ hx (Je L p) (KC L p) (OV L p) (hN _ hM) ⟨by simp [hd],by simp [Jc],rfl,Lib.hid (if_neg (fun h => Jc h.2)),Lib.hid hR⟩
  ·have hR:KC L p = Je L p:=if_neg hd
   rw [if_neg (fun h => hd h.1)] at hM
   exact XQ hS hok h AB p Ab cb hr Oi.XZ.AV hc hb hbd Oi.len hq0 hq2 h0 hk1 ⟨g1,g2,g3,g4,g5,g6⟩ hm kn hkk _ hx (Je L p) (KC L p) (OV L p) (hN _ hM) ⟨by simp [hd],rfl,Lib.hid (if_neg (fun h => hd h.1)),Lib.hid hR⟩
 have e:Bf L AB p = (L,⟨false,false,false,[]⟩):=by
  unfold Bf
  rw [if_neg (fun h => h.elim h0 ho),if_neg hk,if_neg hu]
 rw [e]
 refine Ve (R:=(L,⟨false,false,false,[]⟩)) rfl (Ug hS hok h AB p Ab cb hr hc hb hq0 hk1 ?_)
 by_cases h2:L.phase = 2
 ·have hq2:(L.phase != 2) = false:=by simp [h2]
  generalize ha:Bo L AB p.mine = a at hag ho hu
  cases hag with
  | i h1 h2 h3 => exact absurd rfl ho
  | ii h1 h2 h3 h4 h5 h6 => exact absurd rfl ho
  | o g1 g2 g3 g4 g5 g6 => exact .inr (.inr ⟨hq2,⟨⟨g1,g2⟩,g3,⟨g4,g5⟩,g6⟩,Lib.hid (by
    cases hm:BI L p
    ·rfl
    ·exact absurd ⟨h2,rfl,hm⟩ hu)⟩)
  | iii g1 g2 g3 g4 g5 g6 => exact .inr (.inl ⟨hq2,.inl ⟨⟨g1,g2⟩,g3,⟨g4,g5⟩,g6⟩⟩)
  | iv g1 g2 g3 => exact .inr (.inl ⟨hq2,.inr ⟨⟨g1,g2⟩,g3⟩⟩)
 ·have hq2:(L.phase != 2) = true:=by simp [h2]
  generalize Bo L AB p.mine = a at hag ho
  cases hag with
  | i h1 h2 h3 => exact absurd rfl ho
  | ii h1 h2 h3 h4 h5 h6 => exact absurd rfl ho
  | o g1 g2 g3 g4 g5 g6 => exact .inl ⟨hq2,.inl ⟨⟨g1,g2⟩,g3,⟨g4,g5⟩,g6⟩⟩
  | iii g1 g2 g3 g4 g5 g6 => exact .inl ⟨hq2,.inr (.inl ⟨⟨g1,g2⟩,g3,⟨g4,g5⟩,g6⟩)⟩
  | iv g1 g2 g3 => exact .inl ⟨hq2,.inr (.inr ⟨⟨g1,g2⟩,g3⟩)⟩
end Go.Proofs.Ytnkkgofpifhoeaa.Rf
end
section
namespace Go.Proofs.Ytnkkgofpifhoeaa.Rf
open Go.RowKit Go.Proofs.Ytnkkgofpifhoeaa.Base Go.Proofs.Ytnkkgofpifhoeaa.Steps Go.Proofs.Ytnkkgofpifhoeaa.Lk Go.Proofs.YtnkkgofpifhoeaaW.PrintWords Go.Proofs.YtnkkgofpifhoeaaW.PrintLast
def QM (L:Lk) (k:Int) (b:List Int):Pr.Ei:=⟨k,L.own,L.token,L.AB,L.yours,b⟩
def takeD (X:Pr.Pr) (s:Nat) (L:Lk) (r:Lk × Tk):Pr.Pr :=
 if r.2.down = true then OA (X.set s (Pr.Ai (X.sd s) r.1)) s (QM L 2 []) else if r.2.up = true then OA (X.set s (Pr.Ai (X.sd s) r.1)) s (QM r.1 1 [])
 else if 0 < r.2.body.length then OA (X.set s (Pr.Ai (X.sd s) r.1)) s (QM r.1 4 r.2.body) else X.set s (Pr.Ai (X.sd s) r.1)
theorem Fm.dI {w W:World} {bs:List (Nat × Nat)} {cs:List (Array Value)} (F:Fm w W bs cs) (hl:bs.length = cs.length) (c:Array Value) (t:Nat) (c':Array Value) (t':Nat):Fm w ((W.alloc (.cells c t)).alloc (.cells c' t')) (bs ++ [(W.heap.size,t),(W.heap.size + 1,t')]) (cs ++ [c,c']):=by
 have h:=(F.add hl c t).add (by simp [hl]) c' t'
 rw [show (W.alloc (.cells c t)).heap.size = W.heap.size + 1 by simp,List.append_assoc,List.append_assoc] at h
 exact h
theorem Ef {S:Nat → Prop} {W:World} {bs:List (Nat × Nat)} {t t':Nat}:∀ k,fS S (bs ++ [(W.heap.size,t),(W.heap.size + 1,t')]) k → fS S bs k ∨ W.heap.size ≤ k:=fun k hk => by
 rcases hk with hk | ⟨b,hb,he⟩
 ·exact .inl (.inl hk)
 ·rcases List.mem_append.1 hb with h | h
  ·exact .inl (.inr ⟨b,h,he⟩)
  ·simp only [List.mem_cons,List.not_mem_nil,or_false] at h
   rcases h with h | h <;> subst h <;> subst he
   ·exact .inr (Nat.le_refl _)
   ·exact .inr (Nat.le_succ _)
theorem QN {S:Nat → Prop} {w:World} (hS:∀ k,S k → k < w.heap.size) {L:Lk} (hok:L.Ok) {nx:Int} {Aq:Option Addr} {cq:Nat} {Ao:Option Addr} {co:Nat} (h:RE S w L nx Aq cq Ao co) (AB:Int) (p:Bz) (Ab:Option Addr) (cb:Nat) (hb0:AB ≠ 0) (Oi:p.Good) (hbd:Gl S w Ab p.body) {L':Lk} {hd up dn:Bool} {bd:List Int} (hr:Bf L AB p = (L',⟨hd,up,dn,bd⟩)) :
  Calls Try.prog 119 #[.agg #[.int .u32 L.own,.int .i64 L.phase,.int .u32 L.token,.int .u32 L.AB,.int .u32 L.yours,.bool L.known,.slice Aq L.queue.length cq,.int .i64 L.sent,.int .u32 nx,.int .u32 L.expected,.int .i64 L.idle,.slice Ao L.out.length co],.int .u32 AB,.agg #[.int .i64 p.kind,.int .u32 p.mine,.int .u32 p.AB,.int .u32 p.yours,.int .u32 p.seq,.int .u32 p.AV,.int .u32 p.stamp,.int .u32 p.echo,.complex .f64 p.zr p.zi,.slice Ab p.body.length cb]] w fun e w' => (∃ Ed A7 c7 A8 c8 A9 c9,e = .returned (.tuple #[.agg #[.int .u32 L'.own,.int .i64 L'.phase,.int .u32 L'.token,.int .u32 L'.AB,.int .u32 L'.yours,.bool L'.known,.slice A7 L'.queue.length c7,.int .i64 L'.sent,.int .u32 Ed,.int .u32 L'.expected,.int .i64 L'.idle,.slice A8 L'.out.length c8],.agg #[.bool hd,.bool up,.bool dn,.slice A9 bd.length c9],.int .i64 0]) ∧ RE S w' L' Ed A7 c7 A8 c8 ∧ Gl S w' A9 bd ∧ bd.length ≤ c9) ∧ Below w.heap.size w w':=by
 have h:=tZ hS hok h AB p Ab cb hb0 Oi hbd
 rw [hr] at h
 refine Go.Calls.mono h ?_
 rintro e w' ⟨⟨v,A9,c9,he,⟨Ed,A7,c7,A8,c8,hv,hR⟩,hb,hc⟩,hbl⟩
 exact ⟨⟨Ed,A7,c7,A8,c8,A9,c9,by rw [he,hv]; rfl,hR,hb,hc⟩,hbl⟩
theorem Z10 {p:Prop} (h:p:=by
 have F:=Lib.hid (F5.out.put 0 rfl Ba hb7)
 have E:=Lib.hid (E5.out.keep (AP Ba (AX 0 (b:=(w.heap.size,84)) rfl)))
 clear hb7 Ba F5 E5 Ik dB hHeld
 have Ik:=Lib.hid E.out.size
 have dB:=Lib.hid E.out.one
 have Ui:=F.out.CO 5 rfl rfl
 refine hK.out _ _ ?_
 clear hK K
 refine BG (by kernel_rfl) ?_
 go_wp2_with (first | ((with_reducible refine AO (N:=68) rfl ?_); (refine F.out.ld 0 rfl 84 (.tmp 2) rfl rfl rfl rfl Try.underlying84 rfl (CU Ik.out) ?_)) | ((with_reducible refine gate_ (.store 84 (.tmp 4) (.tmp 68)) rfl ?_); (refine F.out.st 1 rfl rfl 84 (.tmp 4) (.tmp 68) rfl rfl rfl rfl rfl (CU Ik.out) Ik.out.symm dB.out ?_); (intro w8 hF hA); (have F8:=Lib.hid hF); (have E8:=Lib.hid (E.out.keep (AP hA (AX 1 rfl)))); (clear hF hA)))
 have Dt:=run_loadVar_row (P:=Try.prog) w8 _ 84 84 _ (0,0) _ (F8.out.get 1 rfl rfl) Try.underlying84 rfl (CU Ik.out)
 refine bodyPost_ret (v:=_) (Pk.results_cell Try.results90 _ _ rfl Dt) rfl ?_
 refine ⟨⟨_,rfl,?_⟩,F8.out.bw⟩
 unfold takeD
 simp only [hdn,hup,tq.out,if_true,if_false,Bool.false_eq_true]
 exact E8.out.up EH):p:=h
theorem Uj {S:Nat → Prop} {w:World} (hS:∀ k,S k → k < w.heap.size) {X:Pr.Pr} {cs:Array Value} (hP:RP S w X cs) (i:Nat) (hi:i < X.way.length) (hY:X.way.length ≤ 1024) (s:Nat) (hs:s < 2) (hds:(X.way.getD i Pr.DI).dst = s) (hok:(X.sd s).end_.Ok) (KY:(X.sd s).log.length ≤ 1000000) (hb0:(X.way.getD i Pr.DI).AB ≠ 0) (Oi:(X.way.getD i Pr.DI).p.Good) (r:Lk × Tk) (hr:Bf (X.sd s).end_ (X.way.getD i Pr.DI).AB (X.way.getD i Pr.DI).p = r)
  (hx:(r.2.down = true ∧ r.2.up = false ∧ r.2.body = []) ∨ (r.2.down = false ∧ r.2.up = true ∧ r.2.body = []) ∨ (r.2.down = false ∧ r.2.up = false ∧ r.2.body.length ≤ 1000)) :
  Calls Try.prog 90 #[.agg cs,.int .i64 (i:Int)] w fun e w' => (∃ cs',e = .returned (.agg cs') ∧ RP S w' (takeD { X with way:=X.way.eraseIdx i } s (X.sd s).end_ r) cs') ∧ Below w.heap.size w w':=by
 obtain ⟨Aw,cw,hcw,Fh,hLw⟩:=hP.y
 obtain ⟨g,o,rw0,hA,-,⟨Ab,cb,hrw,hlb,J5⟩,hrg⟩:=hLw.el (by decide) i hi Pr.DI
 obtain ⟨nx,Aq,cq,Ao,co,hre,hcells⟩:=hP.e s hs
 generalize hf:X.way.getD i Pr.DI = f at *
 obtain ⟨dst,AB,p⟩:=f
 have hd9:dst = (s:Int):=hds
 subst hd9
 subst hrw
 obtain ⟨L',⟨hd,up,dn,bd⟩⟩:=r
 have AAC:(({ X with way:=X.way.eraseIdx i }:Pr.Pr).sd s).log.length ≤ 1000000:=KY
 have Uk:=Lib.hid (show (Pr.Ai (X.sd s) L').log.length ≤ 1000000 from KY)
 have Qk:=Lib.hid hrg
 have Yc:=Lib.hid hlb
 have BB:=Lib.hid J5
 have Jk:=Lib.hid hcells
 have JG:=Lib.hid hre
 have Jf:=Lib.hid hok
 have HB0:=Lib.hid hb0
 have KE:=Lib.hid Oi
 have HR:=Lib.hid hr
 have HS:=Lib.hid hS
 have HP:=Lib.hid hP
 have HY:=Lib.hid hY
 have wW:=Lib.hid hi
 have Ud:=Lib.hid Fh
 have EJ:=Lib.hid hs
 have HX:=Lib.hid hx
 have hsi:(s:Int) < 2:=by omega
 have hii:(i:Int) < (X.way.length:Int):=by omega
 have wX:(X.way.length:Int) ≤ 1024:=by omega
 obtain ⟨L,hL⟩:∃ L,L = (X.sd s).end_:=⟨_,rfl⟩
 rw [← hL] at Jk JG Jf HR ⊢
 subst hA
 have kZ:=Lib.hid hLw
 have Ib:=Try.underlying84
 have JF:=Try.underlying82
 have Iq:=Try.underlying79
 have Df:=Try.underlying78
 have GK:=Try.underlying163
 have PK:=Try.underlying194
 have CP:=Try.underlying27
 clear KY AAC hrg hlb J5 hcells hre hok hb0 Oi hr hS hP hY hi Fh hs hx hLw hds hL hf
 have XL:=HX.out
 simp only at XL
 clear HX
 rcases XL with ⟨hdn,hup,hbz⟩ | ⟨hdn,hup,hbz⟩ | ⟨hdn,hup,hbl⟩
 ·have ku:=Lib.hid hdn
  have kz:=Lib.hid hup
  have lC:=Lib.hid (show bd.length = 0 from by rw [hbz]; rfl)
  have tq:=Lib.hid (show ¬ (0 < bd.length) from by rw [hbz]; decide)
  clear hdn hup hbz
  go_enter Try.func90,Try.ntmps90
  go_wp2_with (first | ((with_reducible refine AO (N:=14) rfl ?_); (refine wpList_load_mid rfl 163 (.tmp 13) rfl g (o + i * 12) (by first | rfl | (simp; done)) [.int .i64 (s:Int),.int .u32 AB,.int .i64 p.kind,.int .u32 p.mine,.int .u32 p.AB,.int .u32 p.yours,.int .u32 p.seq,.int .u32 p.AV,.int .u32 p.stamp,.int .u32 p.echo,.complex .f64 p.zr p.zi,.slice Ab p.body.length cb] _ (fun j v hv => Bl (Io w _ _) (Qk.out j v hv)) Try.underlying163 rfl (by kernel_rfl) ?_)) | (go_at_call 91; (have F2:=Fm.three w cs #[.int .u32 0,.int .i64 0,.int .u32 0,.int .u32 0,.int .u32 0,.bool false,.slice none 0 0,.int .i64 0,.int .u32 0,.int .u32 0,.int .i64 0,.slice none 0 0,.int .u32 0,.int .i64 0,.int .u32 0,.int .u32 0,.int .u32 0,.bool false,.slice none 0 0,.int .i64 0,.int .u32 0,.int .u32 0,.int .i64 0,.slice none 0 0,.slice none 0 0,.slice none 0 0,.slice none 0 0] #[.int .i64 (s:Int),.int .u32 AB,.int .i64 p.kind,.int .u32 p.mine,.int .u32 p.AB,.int .u32 p.yours,.int .u32 p.seq,.int .u32 p.AV,.int .u32 p.stamp,.int .u32 p.echo,.complex .f64 p.zr p.zi,.slice Ab p.body.length cb] 84 84 163); (obtain ⟨w0,hw0⟩:∃ w0,w0 = ((w.alloc (.cells cs 84)).alloc (.cells #[.int .u32 0,.int .i64 0,.int .u32 0,.int .u32 0,.int .u32 0,.bool false,.slice none 0 0,.int .i64 0,.int .u32 0,.int .u32 0,.int .i64 0,.slice none 0 0,.int .u32 0,.int .i64 0,.int .u32 0,.int .u32 0,.int .u32 0,.bool false,.slice none 0 0,.int .i64 0,.int .u32 0,.int .u32 0,.int .i64 0,.slice none 0 0,.slice none 0 0,.slice none 0 0,.slice none 0 0] 84)).alloc (.cells #[.int .i64 (s:Int),.int .u32 AB,.int .i64 p.kind,.int .u32 p.mine,.int .u32 p.AB,.int .u32 p.yours,.int .u32 p.seq,.int .u32 p.AV,.int .u32 p.stamp,.int .u32 p.echo,.complex .f64 p.zr p.zi,.slice Ab p.body.length cb] 163):=⟨_,rfl⟩); (rw [← hw0] at F2 ⊢); (clear hw0); (have F:=Lib.hid F2); (clear F2); (have E:=Lib.hid ((HP.out.up F.out.up).below F.out.bw)); (have G:=Lib.hid ((JG.out.up F.out.up).below F.out.bw)); (have B:=Lib.hid ((BB.out.up F.out.up).below F.out.bw)); (refine Go.Calls.mono (show Calls Try.prog 91 _ _ _ from JE (F.out.slt HS.out) X.way _ cw ((kZ.out.up (by decide) F.out.up).below F.out.bw) Ud.out i wW.out HY.out) ?_); (intro e w1 hq); (obtain ⟨⟨A5,c5,he,hL5,hc5⟩,hb2⟩:=hq); (subst he); (have Rn:=Lib.hid hL5); (have Ns:=Lib.hid hc5); (have F2:=Lib.hid (F.out.below hb2)); (have E2:=Lib.hid (E.out.below hb2)); (have G2:=Lib.hid (G.out.below hb2)); (have B2:=Lib.hid (B.out.below hb2)); (clear G B); (have G:=G2); (have B:=B2); (clear G2 B2); (clear hL5 hc5 hb2); (clear F E); (have F:=F2); (have E:=E2); (clear F2 E2)) | ((with_reducible refine gate_ (.store 82 (.tmp 19) (.tmp 18)) rfl ?_); (refine F.out.st1 0 (v:=.slice A5 (X.way.eraseIdx i).length c5) rfl rfl 82 (.tmp 19) (.tmp 18) rfl rfl rfl rfl rfl rfl (by have:=E.out.size; omega) (by kernel_rfl) rfl ?_); (intro w2 hF hA); (have F2:=Lib.hid hF); (have E2:=Lib.hid (RP.UZ (E.out.keep (AP hA (AX 0 rfl))) Ns.out (Rn.out.keep (AP hA (AX 0 rfl))))); (have G2:=Lib.hid (G.out.keep (AP hA (AX 0 rfl)))); (have B2:=Lib.hid (B.out.keep (AP hA (AX 0 rfl)))); (clear G B); (have G:=G2); (have B:=B2); (clear G2 B2); (clear hF hA Rn Ns); (clear F E); (have F:=F2); (have E:=E2); (clear F2 E2); (have Cb:=F.out.CO 0 rfl rfl); (have OH:=F.out.CO 2 rfl rfl)) | ((with_reducible refine AO (N:=24) rfl ?_); (refine F.out.Vb 0 (s * 12) rfl 78 (.tmp 23) rfl rfl rfl (by first | rfl | (simp; done)) [.int .u32 L.own,.int .i64 L.phase,.int .u32 L.token,.int .u32 L.AB,.int .u32 L.yours,.bool L.known,.slice Aq L.queue.length cq,.int .i64 L.sent,.int .u32 nx,.int .u32 L.expected,.int .i64 L.idle,.slice Ao L.out.length co] (fun j v hv => (Array.getElem?_setIfInBounds_ne (by have hj:j < 12:=(List.getElem?_eq_some_iff.1 hv).1; have:=EJ.out; omega)).trans (Jk.out j v hv)) Try.underlying78 rfl (by kernel_rfl) ?_)) | ((with_reducible refine AO (N:=26) rfl ?_); (clear Cb OH); (have F2:=Lib.hid (F.out.add rfl #[.int .u32 L.own,.int .i64 L.phase,.int .u32 L.token,.int .u32 L.AB,.int .u32 L.yours,.bool L.known,.slice Aq L.queue.length cq,.int .i64 L.sent,.int .u32 nx,.int .u32 L.expected,.int .i64 L.idle,.slice Ao L.out.length co] 78)); (have FI:Below w2.heap.size w2 (w2.alloc (.cells #[.int .u32 L.own,.int .i64 L.phase,.int .u32 L.token,.int .u32 L.AB,.int .u32 L.yours,.bool L.known,.slice Aq L.queue.length cq,.int .i64 L.sent,.int .u32 nx,.int .u32 L.expected,.int .i64 L.idle,.slice Ao L.out.length co] 78)):=UL w2 _); (have E2:=Lib.hid ((E.out.up (Fm.Dn (t:=78))).below FI)); (have G2:=Lib.hid ((G.out.up (Fm.Dn (t:=78))).below FI)); (have B2:=Lib.hid ((B.out.up (Fm.Dn (t:=78))).below FI)); (clear FI); (obtain ⟨w3,hw3⟩:∃ ww,ww = w2.alloc (.cells #[.int .u32 L.own,.int .i64 L.phase,.int .u32 L.token,.int .u32 L.AB,.int .u32 L.yours,.bool L.known,.slice Aq L.queue.length cq,.int .i64 L.sent,.int .u32 nx,.int .u32 L.expected,.int .i64 L.idle,.slice Ao L.out.length co] 78):=⟨_,rfl⟩); (rw [← hw3] at F2 E2 G2 B2 ⊢); (clear hw3); (clear F E G B); (have F:=F2); (have E:=E2); (have G:=G2); (have B:=B2); (clear F2 E2 G2 B2); (have Cb:=F.out.CO 0 rfl rfl); (have OH:=F.out.CO 2 rfl rfl)) | ((with_reducible refine AO (N:=26) rfl ?_); (refine F.out.ld 3 rfl 78 (.tmp 6) rfl rfl rfl rfl Try.underlying78 rfl (by kernel_rfl) ?_)) | ((with_reducible refine AO (N:=30) rfl ?_); (refine F.out.Vb 2 2 rfl 27 (.tmp 29) rfl rfl rfl rfl [.int .i64 p.kind,.int .u32 p.mine,.int .u32 p.AB,.int .u32 p.yours,.int .u32 p.seq,.int .u32 p.AV,.int .u32 p.stamp,.int .u32 p.echo,.complex .f64 p.zr p.zi,.slice Ab p.body.length cb] (fun j v hv => hv) Try.underlying27 rfl (by kernel_rfl) ?_)) | (go_at_call 119; (clear Cb OH); (refine Go.Calls.mono (show Calls Try.prog 119 _ _ _ from QN (F.out.slt HS.out) Jf.out G.out AB p Ab cb HB0.out KE.out B.out HR.out) ?_); (intro e w4 hq); (obtain ⟨⟨Ed,A7,c7,A8,c8,A9,c9,he,BM,ZJ,Bh⟩,hb2⟩:=hq); (subst he); (have WA:=Lib.hid Bh); (have F2:=Lib.hid (F.out.below hb2)); (have E2:=Lib.hid (E.out.below hb2)); (have G2:=Lib.hid BM); (have B2:=Lib.hid ZJ); (clear BM ZJ hb2 Bh); (clear F E G B); (have F:=F2); (have E:=E2); (have G:=G2); (have B:=B2); (clear F2 E2 G2 B2)) | ((with_reducible refine AO (N:=35) rfl ?_); (have F2:=Lib.hid (F.out.dI rfl #[.int .u32 L'.own,.int .i64 L'.phase,.int .u32 L'.token,.int .u32 L'.AB,.int .u32 L'.yours,.bool L'.known,.slice A7 L'.queue.length c7,.int .i64 L'.sent,.int .u32 Ed,.int .u32 L'.expected,.int .i64 L'.idle,.slice A8 L'.out.length c8] 78 #[.bool hd,.bool up,.bool dn,.slice A9 bd.length c9] 194)); (have FI:Below w4.heap.size w4 ((w4.alloc (.cells #[.int .u32 L'.own,.int .i64 L'.phase,.int .u32 L'.token,.int .u32 L'.AB,.int .u32 L'.yours,.bool L'.known,.slice A7 L'.queue.length c7,.int .i64 L'.sent,.int .u32 Ed,.int .u32 L'.expected,.int .i64 L'.idle,.slice A8 L'.out.length c8] 78)).alloc (.cells #[.bool hd,.bool up,.bool dn,.slice A9 bd.length c9] 194)):=Io w4 _ _); (have E2:=Lib.hid ((E.out.up (Ef (t:=78) (t':=194))).below FI)); (have G2:=Lib.hid ((G.out.up (Ef (t:=78) (t':=194))).below FI)); (have B2:=Lib.hid ((B.out.up (Ef (t:=78) (t':=194))).below FI)); (clear FI); (obtain ⟨w5,hw5⟩:∃ ww,ww = (w4.alloc (.cells #[.int .u32 L'.own,.int .i64 L'.phase,.int .u32 L'.token,.int .u32 L'.AB,.int .u32 L'.yours,.bool L'.known,.slice A7 L'.queue.length c7,.int .i64 L'.sent,.int .u32 Ed,.int .u32 L'.expected,.int .i64 L'.idle,.slice A8 L'.out.length c8] 78)).alloc (.cells #[.bool hd,.bool up,.bool dn,.slice A9 bd.length c9] 194):=⟨_,rfl⟩); (rw [← hw5] at F2 E2 G2 B2 ⊢); (clear hw5); (clear F E G B); (have F:=F2); (have E:=E2); (have G:=G2); (have B:=B2); (clear F2 E2 G2 B2); (have Cb:=F.out.CO 0 rfl rfl); (have OH:=F.out.CO 2 rfl rfl); (have Ui:=F.out.CO 5 rfl rfl)) | ((with_reducible refine AO (N:=37) rfl ?_); (refine F.out.ld 4 rfl 78 (.tmp 7) rfl rfl rfl rfl Try.underlying78 rfl (by kernel_rfl) ?_)) | ((with_reducible refine gate_ (.store 78 (.tmp 39) (.tmp 37)) rfl ?_); (clear Cb OH Ui); (refine F.out.Y5 0 (s * 12) (r:=#[.int .u32 L'.own,.int .i64 L'.phase,.int .u32 L'.token,.int .u32 L'.AB,.int .u32 L'.yours,.bool L'.known,.slice A7 L'.queue.length c7,.int .i64 L'.sent,.int .u32 Ed,.int .u32 L'.expected,.int .i64 L'.idle,.slice A8 L'.out.length c8]) rfl rfl 78 (.tmp 39) (.tmp 37) rfl rfl rfl (by first | rfl | (simp; done)) rfl (by have:=E.out.size; have:=EJ.out; show s * 12 + 12 ≤ _; omega) (by kernel_rfl) (by kernel_rfl) ?_); (intro w6 hF hA); (have F2:=Lib.hid hF); (have E2:=Lib.hid (RP.N9 (E.out.keep (AP hA (AX 0 rfl))) EJ.out (G.out.keep (AP hA (AX 0 rfl))))); (have G2:=Lib.hid (G.out.keep (AP hA (AX 0 rfl)))); (have B2:=Lib.hid (B.out.keep (AP hA (AX 0 rfl)))); (clear hF hA); (clear F E G B); (have F:=F2); (have E:=E2); (have G:=G2); (have B:=B2); (clear F2 E2 G2 B2); (have Ui:=F.out.CO 5 rfl rfl); (have hdn:=ku.out); (have hup:=kz.out); (have hbz:=lC.out); (have Ik:=Lib.hid E.out.size); (have dB:=Lib.hid E.out.one)))
  have E3:=Lib.hid (E.out.below (AZ (Below.refl _ _)))
  have B3:=Lib.hid (B.out.below (AZ (Below.refl _ _)))
  have F3:=Lib.hid (F.out.below (AZ (Below.refl _ _)))
  clear Ui
  clear F E B
  refine FX (n:=7) (ds:=[6]) F3.out nO (by kernel_rfl) rfl rfl (fun hHeld => ?_)
  generalize w6.drew = wA at E3 B3 hHeld ⊢
  have FS:=Lib.hid hHeld
  clear F3
  refine tk 0 42 nP hHeld ?_ (hf:=by intro w' hF; refine EN 84 (.tmp 2) ?_ _ ?_ 84 _ (0,0) _ (hF.get 0 rfl rfl) Try.underlying84 rfl (CU Ik.out) <;> rfl)
  refine pu 1 43 M3L ?_
  refine tk 2 44 M3M hHeld ?_ (hf:=by intro w' s0; have Cb:=s0.CO 2 rfl rfl; clear s0; go_simp; with_reducible rfl)
  refine tk 3 45 nR hHeld ?_ (hf:=by intro w' hF; refine EN 78 (.tmp 6) ?_ _ ?_ 78 _ (0,0) _ (hF.get 3 rfl rfl) Try.underlying78 rfl (by kernel_rfl) <;> rfl)
  refine on 4 (some 46) nT fun K hK => ?_
  refine BH Try.func87 (by kernel_rfl) rfl #[_,_,_] (by rfl) rfl rfl (by (try simp only [List.map_toArray,List.map_cons,List.map_nil]); first | done | rfl) ?_
  refine (show Calls Try.prog 87 _ _ _ from Rq (FS.out.slt HS.out) L nx Aq cq Ao co 2 [] none 0 (Gl.nil _ _) (by decide)).mono ?_
  rintro e w' ⟨⟨XK,c10,rfl,Ky,IL⟩,hb2⟩
  refine ⟨_,rfl,?_⟩
  have F4:=Lib.hid (FS.out.below hb2)
  have E4:=Lib.hid (E3.out.below hb2)
  have QO:=Lib.hid Ky
  have QS:=Lib.hid IL
  clear Ky IL hb2 hHeld E3 FS
  refine hK.out _ _ (F4.out) (fun hHeld => ?_)
  clear hK K
  refine nm 46 ?_
  refine on 5 (some 47) nU fun K hK => ?_
  refine BH Try.func86 (by kernel_rfl) rfl #[_,_,_] (by rfl) rfl rfl (by (try simp only [List.map_toArray,List.map_cons,List.map_nil]); first | done | rfl) ?_
  refine (show Calls Try.prog 86 _ _ _ from JW (F4.out.slt HS.out) E4.out s EJ.out (QM L 2 []) XK c10 QO.out QS.out (by rw [Pr.Pr.Ae]; exact Uk.out)).mono ?_
  rintro e w' ⟨⟨SB,rfl,SC⟩,hb2⟩
  refine ⟨_,rfl,?_⟩
  have F5:=Lib.hid (F4.out.below hb2)
  have E5:=Lib.hid SC
  clear SC hb2 hHeld F4 E4
  refine hK.out _ _ (F5.out) (fun hHeld => ?_)
  clear hK K
  refine nm 47 ?_
  refine la 6 none nV fun K hK => ?_
  refine row_step (by rfl) rfl 84 (.tmp 2) (.tmp 47) rfl _ _ rfl rfl 84 _ (F5.out.get 0 rfl rfl) (CU E5.out.size) (Ik.out.trans E5.out.size.symm) E5.out.one (fun w7 hb7 Ba => ?_)
  exact Z10
 ·have ku:=Lib.hid hdn
  have kz:=Lib.hid hup
  have lC:=Lib.hid (show bd.length = 0 from by rw [hbz]; rfl)
  have tq:=Lib.hid (show ¬ (0 < bd.length) from by rw [hbz]; decide)
  clear hdn hup hbz
  go_enter Try.func90,Try.ntmps90
  go_wp2_with (first | ((with_reducible refine AO (N:=14) rfl ?_); (refine wpList_load_mid rfl 163 (.tmp 13) rfl g (o + i * 12) (by first | rfl | (simp; done)) [.int .i64 (s:Int),.int .u32 AB,.int .i64 p.kind,.int .u32 p.mine,.int .u32 p.AB,.int .u32 p.yours,.int .u32 p.seq,.int .u32 p.AV,.int .u32 p.stamp,.int .u32 p.echo,.complex .f64 p.zr p.zi,.slice Ab p.body.length cb] _ (fun j v hv => Bl (Io w _ _) (Qk.out j v hv)) Try.underlying163 rfl (by kernel_rfl) ?_)) | (go_at_call 91; (have F2:=Fm.three w cs #[.int .u32 0,.int .i64 0,.int .u32 0,.int .u32 0,.int .u32 0,.bool false,.slice none 0 0,.int .i64 0,.int .u32 0,.int .u32 0,.int .i64 0,.slice none 0 0,.int .u32 0,.int .i64 0,.int .u32 0,.int .u32 0,.int .u32 0,.bool false,.slice none 0 0,.int .i64 0,.int .u32 0,.int .u32 0,.int .i64 0,.slice none 0 0,.slice none 0 0,.slice none 0 0,.slice none 0 0] #[.int .i64 (s:Int),.int .u32 AB,.int .i64 p.kind,.int .u32 p.mine,.int .u32 p.AB,.int .u32 p.yours,.int .u32 p.seq,.int .u32 p.AV,.int .u32 p.stamp,.int .u32 p.echo,.complex .f64 p.zr p.zi,.slice Ab p.body.length cb] 84 84 163); (obtain ⟨w0,hw0⟩:∃ w0,w0 = ((w.alloc (.cells cs 84)).alloc (.cells #[.int .u32 0,.int .i64 0,.int .u32 0,.int .u32 0,.int .u32 0,.bool false,.slice none 0 0,.int .i64 0,.int .u32 0,.int .u32 0,.int .i64 0,.slice none 0 0,.int .u32 0,.int .i64 0,.int .u32 0,.int .u32 0,.int .u32 0,.bool false,.slice none 0 0,.int .i64 0,.int .u32 0,.int .u32 0,.int .i64 0,.slice none 0 0,.slice none 0 0,.slice none 0 0,.slice none 0 0] 84)).alloc (.cells #[.int .i64 (s:Int),.int .u32 AB,.int .i64 p.kind,.int .u32 p.mine,.int .u32 p.AB,.int .u32 p.yours,.int .u32 p.seq,.int .u32 p.AV,.int .u32 p.stamp,.int .u32 p.echo,.complex .f64 p.zr p.zi,.slice Ab p.body.length cb] 163):=⟨_,rfl⟩); (rw [← hw0] at F2 ⊢); (clear hw0); (have F:=Lib.hid F2); (clear F2); (have E:=Lib.hid ((HP.out.up F.out.up).below F.out.bw)); (have G:=Lib.hid ((JG.out.up F.out.up).below F.out.bw)); (have B:=Lib.hid ((BB.out.up F.out.up).below F.out.bw)); (refine Go.Calls.mono (show Calls Try.prog 91 _ _ _ from JE (F.out.slt HS.out) X.way _ cw ((kZ.out.up (by decide) F.out.up).below F.out.bw) Ud.out i wW.out HY.out) ?_); (intro e w1 hq); (obtain ⟨⟨A5,c5,he,hL5,hc5⟩,hb2⟩:=hq); (subst he); (have Rn:=Lib.hid hL5); (have Ns:=Lib.hid hc5); (have F2:=Lib.hid (F.out.below hb2)); (have E2:=Lib.hid (E.out.below hb2)); (have G2:=Lib.hid (G.out.below hb2)); (have B2:=Lib.hid (B.out.below hb2)); (clear G B); (have G:=G2); (have B:=B2); (clear G2 B2); (clear hL5 hc5 hb2); (clear F E); (have F:=F2); (have E:=E2); (clear F2 E2)) | ((with_reducible refine gate_ (.store 82 (.tmp 19) (.tmp 18)) rfl ?_); (refine F.out.st1 0 (v:=.slice A5 (X.way.eraseIdx i).length c5) rfl rfl 82 (.tmp 19) (.tmp 18) rfl rfl rfl rfl rfl rfl (by have:=E.out.size; omega) (by kernel_rfl) rfl ?_); (intro w2 hF hA); (have F2:=Lib.hid hF); (have E2:=Lib.hid (RP.UZ (E.out.keep (AP hA (AX 0 rfl))) Ns.out (Rn.out.keep (AP hA (AX 0 rfl))))); (have G2:=Lib.hid (G.out.keep (AP hA (AX 0 rfl)))); (have B2:=Lib.hid (B.out.keep (AP hA (AX 0 rfl)))); (clear G B); (have G:=G2); (have B:=B2); (clear G2 B2); (clear hF hA Rn Ns); (clear F E); (have F:=F2); (have E:=E2); (clear F2 E2); (have Cb:=F.out.CO 0 rfl rfl); (have OH:=F.out.CO 2 rfl rfl)) | ((with_reducible refine AO (N:=24) rfl ?_); (refine F.out.Vb 0 (s * 12) rfl 78 (.tmp 23) rfl rfl rfl (by first | rfl | (simp; done)) [.int .u32 L.own,.int .i64 L.phase,.int .u32 L.token,.int .u32 L.AB,.int .u32 L.yours,.bool L.known,.slice Aq L.queue.length cq,.int .i64 L.sent,.int .u32 nx,.int .u32 L.expected,.int .i64 L.idle,.slice Ao L.out.length co] (fun j v hv => (Array.getElem?_setIfInBounds_ne (by have hj:j < 12:=(List.getElem?_eq_some_iff.1 hv).1; have:=EJ.out; omega)).trans (Jk.out j v hv)) Try.underlying78 rfl (by kernel_rfl) ?_)) | ((with_reducible refine AO (N:=26) rfl ?_); (clear Cb OH); (have F2:=Lib.hid (F.out.add rfl #[.int .u32 L.own,.int .i64 L.phase,.int .u32 L.token,.int .u32 L.AB,.int .u32 L.yours,.bool L.known,.slice Aq L.queue.length cq,.int .i64 L.sent,.int .u32 nx,.int .u32 L.expected,.int .i64 L.idle,.slice Ao L.out.length co] 78)); (have FI:Below w2.heap.size w2 (w2.alloc (.cells #[.int .u32 L.own,.int .i64 L.phase,.int .u32 L.token,.int .u32 L.AB,.int .u32 L.yours,.bool L.known,.slice Aq L.queue.length cq,.int .i64 L.sent,.int .u32 nx,.int .u32 L.expected,.int .i64 L.idle,.slice Ao L.out.length co] 78)):=UL w2 _); (have E2:=Lib.hid ((E.out.up (Fm.Dn (t:=78))).below FI)); (have G2:=Lib.hid ((G.out.up (Fm.Dn (t:=78))).below FI)); (have B2:=Lib.hid ((B.out.up (Fm.Dn (t:=78))).below FI)); (clear FI); (obtain ⟨w3,hw3⟩:∃ ww,ww = w2.alloc (.cells #[.int .u32 L.own,.int .i64 L.phase,.int .u32 L.token,.int .u32 L.AB,.int .u32 L.yours,.bool L.known,.slice Aq L.queue.length cq,.int .i64 L.sent,.int .u32 nx,.int .u32 L.expected,.int .i64 L.idle,.slice Ao L.out.length co] 78):=⟨_,rfl⟩); (rw [← hw3] at F2 E2 G2 B2 ⊢); (clear hw3); (clear F E G B); (have F:=F2); (have E:=E2); (have G:=G2); (have B:=B2); (clear F2 E2 G2 B2); (have Cb:=F.out.CO 0 rfl rfl); (have OH:=F.out.CO 2 rfl rfl)) | ((with_reducible refine AO (N:=26) rfl ?_); (refine F.out.ld 3 rfl 78 (.tmp 6) rfl rfl rfl rfl Try.underlying78 rfl (by kernel_rfl) ?_)) | ((with_reducible refine AO (N:=30) rfl ?_); (refine F.out.Vb 2 2 rfl 27 (.tmp 29) rfl rfl rfl rfl [.int .i64 p.kind,.int .u32 p.mine,.int .u32 p.AB,.int .u32 p.yours,.int .u32 p.seq,.int .u32 p.AV,.int .u32 p.stamp,.int .u32 p.echo,.complex .f64 p.zr p.zi,.slice Ab p.body.length cb] (fun j v hv => hv) Try.underlying27 rfl (by kernel_rfl) ?_)) | (go_at_call 119; (clear Cb OH); (refine Go.Calls.mono (show Calls Try.prog 119 _ _ _ from QN (F.out.slt HS.out) Jf.out G.out AB p Ab cb HB0.out KE.out B.out HR.out) ?_); (intro e w4 hq); (obtain ⟨⟨Ed,A7,c7,A8,c8,A9,c9,he,BM,ZJ,Bh⟩,hb2⟩:=hq); (subst he); (have WA:=Lib.hid Bh); (have F2:=Lib.hid (F.out.below hb2)); (have E2:=Lib.hid (E.out.below hb2)); (have G2:=Lib.hid BM); (have B2:=Lib.hid ZJ); (clear BM ZJ hb2 Bh); (clear F E G B); (have F:=F2); (have E:=E2); (have G:=G2); (have B:=B2); (clear F2 E2 G2 B2)) | ((with_reducible refine AO (N:=35) rfl ?_); (have F2:=Lib.hid (F.out.dI rfl #[.int .u32 L'.own,.int .i64 L'.phase,.int .u32 L'.token,.int .u32 L'.AB,.int .u32 L'.yours,.bool L'.known,.slice A7 L'.queue.length c7,.int .i64 L'.sent,.int .u32 Ed,.int .u32 L'.expected,.int .i64 L'.idle,.slice A8 L'.out.length c8] 78 #[.bool hd,.bool up,.bool dn,.slice A9 bd.length c9] 194)); (have FI:Below w4.heap.size w4 ((w4.alloc (.cells #[.int .u32 L'.own,.int .i64 L'.phase,.int .u32 L'.token,.int .u32 L'.AB,.int .u32 L'.yours,.bool L'.known,.slice A7 L'.queue.length c7,.int .i64 L'.sent,.int .u32 Ed,.int .u32 L'.expected,.int .i64 L'.idle,.slice A8 L'.out.length c8] 78)).alloc (.cells #[.bool hd,.bool up,.bool dn,.slice A9 bd.length c9] 194)):=Io w4 _ _); (have E2:=Lib.hid ((E.out.up (Ef (t:=78) (t':=194))).below FI)); (have G2:=Lib.hid ((G.out.up (Ef (t:=78) (t':=194))).below FI)); (have B2:=Lib.hid ((B.out.up (Ef (t:=78) (t':=194))).below FI)); (clear FI); (obtain ⟨w5,hw5⟩:∃ ww,ww = (w4.alloc (.cells #[.int .u32 L'.own,.int .i64 L'.phase,.int .u32 L'.token,.int .u32 L'.AB,.int .u32 L'.yours,.bool L'.known,.slice A7 L'.queue.length c7,.int .i64 L'.sent,.int .u32 Ed,.int .u32 L'.expected,.int .i64 L'.idle,.slice A8 L'.out.length c8] 78)).alloc (.cells #[.bool hd,.bool up,.bool dn,.slice A9 bd.length c9] 194):=⟨_,rfl⟩); (rw [← hw5] at F2 E2 G2 B2 ⊢); (clear hw5); (clear F E G B); (have F:=F2); (have E:=E2); (have G:=G2); (have B:=B2); (clear F2 E2 G2 B2); (have Cb:=F.out.CO 0 rfl rfl); (have OH:=F.out.CO 2 rfl rfl); (have Ui:=F.out.CO 5 rfl rfl)) | ((with_reducible refine AO (N:=37) rfl ?_); (refine F.out.ld 4 rfl 78 (.tmp 7) rfl rfl rfl rfl Try.underlying78 rfl (by kernel_rfl) ?_)) | ((with_reducible refine gate_ (.store 78 (.tmp 39) (.tmp 37)) rfl ?_); (clear Cb OH Ui); (refine F.out.Y5 0 (s * 12) (r:=#[.int .u32 L'.own,.int .i64 L'.phase,.int .u32 L'.token,.int .u32 L'.AB,.int .u32 L'.yours,.bool L'.known,.slice A7 L'.queue.length c7,.int .i64 L'.sent,.int .u32 Ed,.int .u32 L'.expected,.int .i64 L'.idle,.slice A8 L'.out.length c8]) rfl rfl 78 (.tmp 39) (.tmp 37) rfl rfl rfl (by first | rfl | (simp; done)) rfl (by have:=E.out.size; have:=EJ.out; show s * 12 + 12 ≤ _; omega) (by kernel_rfl) (by kernel_rfl) ?_); (intro w6 hF hA); (have F2:=Lib.hid hF); (have E2:=Lib.hid (RP.N9 (E.out.keep (AP hA (AX 0 rfl))) EJ.out (G.out.keep (AP hA (AX 0 rfl))))); (have G2:=Lib.hid (G.out.keep (AP hA (AX 0 rfl)))); (have B2:=Lib.hid (B.out.keep (AP hA (AX 0 rfl)))); (clear hF hA); (clear F E G B); (have F:=F2); (have E:=E2); (have G:=G2); (have B:=B2); (clear F2 E2 G2 B2); (have Ui:=F.out.CO 5 rfl rfl); (have hdn:=ku.out); (have hup:=kz.out); (have hbz:=lC.out); (have Ik:=Lib.hid E.out.size); (have dB:=Lib.hid E.out.one)))
  have E3:=Lib.hid (E.out.below (AZ (Below.refl _ _)))
  have B3:=Lib.hid (B.out.below (AZ (Below.refl _ _)))
  have F3:=Lib.hid (F.out.below (AZ (Below.refl _ _)))
  clear Ui
  clear F E B
  refine FX (n:=7) (ds:=[6]) F3.out nO (by kernel_rfl) rfl rfl (fun hHeld => ?_)
  generalize w6.drew = wA at E3 B3 hHeld ⊢
  have FS:=Lib.hid hHeld
  clear F3
  refine tk 0 50 nP hHeld ?_ (hf:=by intro w' hF; refine EN 84 (.tmp 2) ?_ _ ?_ 84 _ (0,0) _ (hF.get 0 rfl rfl) Try.underlying84 rfl (CU Ik.out) <;> rfl)
  refine pu 1 51 M3L ?_
  refine tk 2 52 M3M hHeld ?_ (hf:=by intro w' s0; have Cb:=s0.CO 2 rfl rfl; clear s0; go_simp; with_reducible rfl)
  refine tk 3 53 nR hHeld ?_ (hf:=by intro w' hF; refine EN 78 (.tmp 7) ?_ _ ?_ 78 _ (0,0) _ (hF.get 4 rfl rfl) Try.underlying78 rfl (by kernel_rfl) <;> rfl)
  refine on 4 (some 54) nT fun K hK => ?_
  refine BH Try.func87 (by kernel_rfl) rfl #[_,_,_] (by rfl) rfl rfl (by (try simp only [List.map_toArray,List.map_cons,List.map_nil]); first | done | rfl) ?_
  refine (show Calls Try.prog 87 _ _ _ from Rq (FS.out.slt HS.out) L' Ed A7 c7 A8 c8 1 [] none 0 (Gl.nil _ _) (by decide)).mono ?_
  rintro e w' ⟨⟨XK,c10,rfl,Ky,IL⟩,hb2⟩
  refine ⟨_,rfl,?_⟩
  have F4:=Lib.hid (FS.out.below hb2)
  have E4:=Lib.hid (E3.out.below hb2)
  have QO:=Lib.hid Ky
  have QS:=Lib.hid IL
  clear Ky IL hb2 hHeld E3 FS
  refine hK.out _ _ (F4.out) (fun hHeld => ?_)
  clear hK K
  refine nm 54 ?_
  refine on 5 (some 55) nU fun K hK => ?_
  refine BH Try.func86 (by kernel_rfl) rfl #[_,_,_] (by rfl) rfl rfl (by (try simp only [List.map_toArray,List.map_cons,List.map_nil]); first | done | rfl) ?_
  refine (show Calls Try.prog 86 _ _ _ from JW (F4.out.slt HS.out) E4.out s EJ.out (QM L' 1 []) XK c10 QO.out QS.out (by rw [Pr.Pr.Ae]; exact Uk.out)).mono ?_
  rintro e w' ⟨⟨SB,rfl,SC⟩,hb2⟩
  refine ⟨_,rfl,?_⟩
  have F5:=Lib.hid (F4.out.below hb2)
  have E5:=Lib.hid SC
  clear SC hb2 hHeld F4 E4
  refine hK.out _ _ (F5.out) (fun hHeld => ?_)
  clear hK K
  refine nm 55 ?_
  refine la 6 none nV fun K hK => ?_
  refine row_step (by rfl) rfl 84 (.tmp 2) (.tmp 55) rfl _ _ rfl rfl 84 _ (F5.out.get 0 rfl rfl) (CU E5.out.size) (Ik.out.trans E5.out.size.symm) E5.out.one (fun w7 hb7 Ba => ?_)
  exact Z10
 by_cases Hg:0 < bd.length
 ·have ku:=Lib.hid hdn
  have kz:=Lib.hid hup
  have lC:=Lib.hid (show decide ((bd.length:Int) > 0) = true ∧ 0 < bd.length ∧ (bd.length:Int) > 0 from ⟨by rw [decide_eq_true_eq]; omega,Hg,by omega⟩)
  have tq:=Lib.hid (show (0 < bd.length) from by exact Hg)
  have FP:=Lib.hid (show bd.length ≤ 10000 from by omega)
  clear hdn hup hbl Hg
  go_enter Try.func90,Try.ntmps90
  go_wp2_with (first | ((with_reducible refine AO (N:=14) rfl ?_); (refine wpList_load_mid rfl 163 (.tmp 13) rfl g (o + i * 12) (by first | rfl | (simp; done)) [.int .i64 (s:Int),.int .u32 AB,.int .i64 p.kind,.int .u32 p.mine,.int .u32 p.AB,.int .u32 p.yours,.int .u32 p.seq,.int .u32 p.AV,.int .u32 p.stamp,.int .u32 p.echo,.complex .f64 p.zr p.zi,.slice Ab p.body.length cb] _ (fun j v hv => Bl (Io w _ _) (Qk.out j v hv)) Try.underlying163 rfl (by kernel_rfl) ?_)) | (go_at_call 91; (have F2:=Fm.three w cs #[.int .u32 0,.int .i64 0,.int .u32 0,.int .u32 0,.int .u32 0,.bool false,.slice none 0 0,.int .i64 0,.int .u32 0,.int .u32 0,.int .i64 0,.slice none 0 0,.int .u32 0,.int .i64 0,.int .u32 0,.int .u32 0,.int .u32 0,.bool false,.slice none 0 0,.int .i64 0,.int .u32 0,.int .u32 0,.int .i64 0,.slice none 0 0,.slice none 0 0,.slice none 0 0,.slice none 0 0] #[.int .i64 (s:Int),.int .u32 AB,.int .i64 p.kind,.int .u32 p.mine,.int .u32 p.AB,.int .u32 p.yours,.int .u32 p.seq,.int .u32 p.AV,.int .u32 p.stamp,.int .u32 p.echo,.complex .f64 p.zr p.zi,.slice Ab p.body.length cb] 84 84 163); (obtain ⟨w0,hw0⟩:∃ w0,w0 = ((w.alloc (.cells cs 84)).alloc (.cells #[.int .u32 0,.int .i64 0,.int .u32 0,.int .u32 0,.int .u32 0,.bool false,.slice none 0 0,.int .i64 0,.int .u32 0,.int .u32 0,.int .i64 0,.slice none 0 0,.int .u32 0,.int .i64 0,.int .u32 0,.int .u32 0,.int .u32 0,.bool false,.slice none 0 0,.int .i64 0,.int .u32 0,.int .u32 0,.int .i64 0,.slice none 0 0,.slice none 0 0,.slice none 0 0,.slice none 0 0] 84)).alloc (.cells #[.int .i64 (s:Int),.int .u32 AB,.int .i64 p.kind,.int .u32 p.mine,.int .u32 p.AB,.int .u32 p.yours,.int .u32 p.seq,.int .u32 p.AV,.int .u32 p.stamp,.int .u32 p.echo,.complex .f64 p.zr p.zi,.slice Ab p.body.length cb] 163):=⟨_,rfl⟩); (rw [← hw0] at F2 ⊢); (clear hw0); (have F:=Lib.hid F2); (clear F2); (have E:=Lib.hid ((HP.out.up F.out.up).below F.out.bw)); (have G:=Lib.hid ((JG.out.up F.out.up).below F.out.bw)); (have B:=Lib.hid ((BB.out.up F.out.up).below F.out.bw)); (refine Go.Calls.mono (show Calls Try.prog 91 _ _ _ from JE (F.out.slt HS.out) X.way _ cw ((kZ.out.up (by decide) F.out.up).below F.out.bw) Ud.out i wW.out HY.out) ?_); (intro e w1 hq); (obtain ⟨⟨A5,c5,he,hL5,hc5⟩,hb2⟩:=hq); (subst he); (have Rn:=Lib.hid hL5); (have Ns:=Lib.hid hc5); (have F2:=Lib.hid (F.out.below hb2)); (have E2:=Lib.hid (E.out.below hb2)); (have G2:=Lib.hid (G.out.below hb2)); (have B2:=Lib.hid (B.out.below hb2)); (clear G B); (have G:=G2); (have B:=B2); (clear G2 B2); (clear hL5 hc5 hb2); (clear F E); (have F:=F2); (have E:=E2); (clear F2 E2)) | ((with_reducible refine gate_ (.store 82 (.tmp 19) (.tmp 18)) rfl ?_); (refine F.out.st1 0 (v:=.slice A5 (X.way.eraseIdx i).length c5) rfl rfl 82 (.tmp 19) (.tmp 18) rfl rfl rfl rfl rfl rfl (by have:=E.out.size; omega) (by kernel_rfl) rfl ?_); (intro w2 hF hA); (have F2:=Lib.hid hF); (have E2:=Lib.hid (RP.UZ (E.out.keep (AP hA (AX 0 rfl))) Ns.out (Rn.out.keep (AP hA (AX 0 rfl))))); (have G2:=Lib.hid (G.out.keep (AP hA (AX 0 rfl)))); (have B2:=Lib.hid (B.out.keep (AP hA (AX 0 rfl)))); (clear G B); (have G:=G2); (have B:=B2); (clear G2 B2); (clear hF hA Rn Ns); (clear F E); (have F:=F2); (have E:=E2); (clear F2 E2); (have Cb:=F.out.CO 0 rfl rfl); (have OH:=F.out.CO 2 rfl rfl)) | ((with_reducible refine AO (N:=24) rfl ?_); (refine F.out.Vb 0 (s * 12) rfl 78 (.tmp 23) rfl rfl rfl (by first | rfl | (simp; done)) [.int .u32 L.own,.int .i64 L.phase,.int .u32 L.token,.int .u32 L.AB,.int .u32 L.yours,.bool L.known,.slice Aq L.queue.length cq,.int .i64 L.sent,.int .u32 nx,.int .u32 L.expected,.int .i64 L.idle,.slice Ao L.out.length co] (fun j v hv => (Array.getElem?_setIfInBounds_ne (by have hj:j < 12:=(List.getElem?_eq_some_iff.1 hv).1; have:=EJ.out; omega)).trans (Jk.out j v hv)) Try.underlying78 rfl (by kernel_rfl) ?_)) | ((with_reducible refine AO (N:=26) rfl ?_); (clear Cb OH); (have F2:=Lib.hid (F.out.add rfl #[.int .u32 L.own,.int .i64 L.phase,.int .u32 L.token,.int .u32 L.AB,.int .u32 L.yours,.bool L.known,.slice Aq L.queue.length cq,.int .i64 L.sent,.int .u32 nx,.int .u32 L.expected,.int .i64 L.idle,.slice Ao L.out.length co] 78)); (have FI:Below w2.heap.size w2 (w2.alloc (.cells #[.int .u32 L.own,.int .i64 L.phase,.int .u32 L.token,.int .u32 L.AB,.int .u32 L.yours,.bool L.known,.slice Aq L.queue.length cq,.int .i64 L.sent,.int .u32 nx,.int .u32 L.expected,.int .i64 L.idle,.slice Ao L.out.length co] 78)):=UL w2 _); (have E2:=Lib.hid ((E.out.up (Fm.Dn (t:=78))).below FI)); (have G2:=Lib.hid ((G.out.up (Fm.Dn (t:=78))).below FI)); (have B2:=Lib.hid ((B.out.up (Fm.Dn (t:=78))).below FI)); (clear FI); (obtain ⟨w3,hw3⟩:∃ ww,ww = w2.alloc (.cells #[.int .u32 L.own,.int .i64 L.phase,.int .u32 L.token,.int .u32 L.AB,.int .u32 L.yours,.bool L.known,.slice Aq L.queue.length cq,.int .i64 L.sent,.int .u32 nx,.int .u32 L.expected,.int .i64 L.idle,.slice Ao L.out.length co] 78):=⟨_,rfl⟩); (rw [← hw3] at F2 E2 G2 B2 ⊢); (clear hw3); (clear F E G B); (have F:=F2); (have E:=E2); (have G:=G2); (have B:=B2); (clear F2 E2 G2 B2); (have Cb:=F.out.CO 0 rfl rfl); (have OH:=F.out.CO 2 rfl rfl)) | ((with_reducible refine AO (N:=26) rfl ?_); (refine F.out.ld 3 rfl 78 (.tmp 6) rfl rfl rfl rfl Try.underlying78 rfl (by kernel_rfl) ?_)) | ((with_reducible refine AO (N:=30) rfl ?_); (refine F.out.Vb 2 2 rfl 27 (.tmp 29) rfl rfl rfl rfl [.int .i64 p.kind,.int .u32 p.mine,.int .u32 p.AB,.int .u32 p.yours,.int .u32 p.seq,.int .u32 p.AV,.int .u32 p.stamp,.int .u32 p.echo,.complex .f64 p.zr p.zi,.slice Ab p.body.length cb] (fun j v hv => hv) Try.underlying27 rfl (by kernel_rfl) ?_)) | (go_at_call 119; (clear Cb OH); (refine Go.Calls.mono (show Calls Try.prog 119 _ _ _ from QN (F.out.slt HS.out) Jf.out G.out AB p Ab cb HB0.out KE.out B.out HR.out) ?_); (intro e w4 hq); (obtain ⟨⟨Ed,A7,c7,A8,c8,A9,c9,he,BM,ZJ,Bh⟩,hb2⟩:=hq); (subst he); (have WA:=Lib.hid Bh); (have F2:=Lib.hid (F.out.below hb2)); (have E2:=Lib.hid (E.out.below hb2)); (have G2:=Lib.hid BM); (have B2:=Lib.hid ZJ); (clear BM ZJ hb2 Bh); (clear F E G B); (have F:=F2); (have E:=E2); (have G:=G2); (have B:=B2); (clear F2 E2 G2 B2)) | ((with_reducible refine AO (N:=35) rfl ?_); (have F2:=Lib.hid (F.out.dI rfl #[.int .u32 L'.own,.int .i64 L'.phase,.int .u32 L'.token,.int .u32 L'.AB,.int .u32 L'.yours,.bool L'.known,.slice A7 L'.queue.length c7,.int .i64 L'.sent,.int .u32 Ed,.int .u32 L'.expected,.int .i64 L'.idle,.slice A8 L'.out.length c8] 78 #[.bool hd,.bool up,.bool dn,.slice A9 bd.length c9] 194)); (have FI:Below w4.heap.size w4 ((w4.alloc (.cells #[.int .u32 L'.own,.int .i64 L'.phase,.int .u32 L'.token,.int .u32 L'.AB,.int .u32 L'.yours,.bool L'.known,.slice A7 L'.queue.length c7,.int .i64 L'.sent,.int .u32 Ed,.int .u32 L'.expected,.int .i64 L'.idle,.slice A8 L'.out.length c8] 78)).alloc (.cells #[.bool hd,.bool up,.bool dn,.slice A9 bd.length c9] 194)):=Io w4 _ _); (have E2:=Lib.hid ((E.out.up (Ef (t:=78) (t':=194))).below FI)); (have G2:=Lib.hid ((G.out.up (Ef (t:=78) (t':=194))).below FI)); (have B2:=Lib.hid ((B.out.up (Ef (t:=78) (t':=194))).below FI)); (clear FI); (obtain ⟨w5,hw5⟩:∃ ww,ww = (w4.alloc (.cells #[.int .u32 L'.own,.int .i64 L'.phase,.int .u32 L'.token,.int .u32 L'.AB,.int .u32 L'.yours,.bool L'.known,.slice A7 L'.queue.length c7,.int .i64 L'.sent,.int .u32 Ed,.int .u32 L'.expected,.int .i64 L'.idle,.slice A8 L'.out.length c8] 78)).alloc (.cells #[.bool hd,.bool up,.bool dn,.slice A9 bd.length c9] 194):=⟨_,rfl⟩); (rw [← hw5] at F2 E2 G2 B2 ⊢); (clear hw5); (clear F E G B); (have F:=F2); (have E:=E2); (have G:=G2); (have B:=B2); (clear F2 E2 G2 B2); (have Cb:=F.out.CO 0 rfl rfl); (have OH:=F.out.CO 2 rfl rfl); (have Ui:=F.out.CO 5 rfl rfl)) | ((with_reducible refine AO (N:=37) rfl ?_); (refine F.out.ld 4 rfl 78 (.tmp 7) rfl rfl rfl rfl Try.underlying78 rfl (by kernel_rfl) ?_)) | ((with_reducible refine gate_ (.store 78 (.tmp 39) (.tmp 37)) rfl ?_); (clear Cb OH Ui); (refine F.out.Y5 0 (s * 12) (r:=#[.int .u32 L'.own,.int .i64 L'.phase,.int .u32 L'.token,.int .u32 L'.AB,.int .u32 L'.yours,.bool L'.known,.slice A7 L'.queue.length c7,.int .i64 L'.sent,.int .u32 Ed,.int .u32 L'.expected,.int .i64 L'.idle,.slice A8 L'.out.length c8]) rfl rfl 78 (.tmp 39) (.tmp 37) rfl rfl rfl (by first | rfl | (simp; done)) rfl (by have:=E.out.size; have:=EJ.out; show s * 12 + 12 ≤ _; omega) (by kernel_rfl) (by kernel_rfl) ?_); (intro w6 hF hA); (have F2:=Lib.hid hF); (have E2:=Lib.hid (RP.N9 (E.out.keep (AP hA (AX 0 rfl))) EJ.out (G.out.keep (AP hA (AX 0 rfl))))); (have G2:=Lib.hid (G.out.keep (AP hA (AX 0 rfl)))); (have B2:=Lib.hid (B.out.keep (AP hA (AX 0 rfl)))); (clear hF hA); (clear F E G B); (have F:=F2); (have E:=E2); (have G:=G2); (have B:=B2); (clear F2 E2 G2 B2); (have Ui:=F.out.CO 5 rfl rfl); (have hdn:=ku.out); (have hup:=kz.out); (obtain ⟨hbz,hb1,hb2⟩:=lC.out); (have Ik:=Lib.hid E.out.size); (have dB:=Lib.hid E.out.one)))
  have E3:=Lib.hid (E.out.below (AZ (Below.refl _ _)))
  have B3:=Lib.hid (B.out.below (AZ (Below.refl _ _)))
  have F3:=Lib.hid (F.out.below (AZ (Below.refl _ _)))
  clear Ui
  clear F E B
  refine FX (n:=9) (ds:=[8]) F3.out Zu (by kernel_rfl) rfl rfl (fun hHeld => ?_)
  generalize w6.drew = wA at E3 B3 hHeld ⊢
  have FS:=Lib.hid hHeld
  clear F3
  refine tk 0 60 yG hHeld ?_ (hf:=by intro w' hF; refine EN 84 (.tmp 2) ?_ _ ?_ 84 _ (0,0) _ (hF.get 0 rfl rfl) Try.underlying84 rfl (CU Ik.out) <;> rfl)
  refine pu 1 61 yH ?_
  refine tk 2 62 aP hHeld ?_ (hf:=by intro w' s0; have Cb:=s0.CO 2 rfl rfl; clear s0; go_simp; with_reducible rfl)
  refine tk 3 63 aQ hHeld ?_ (hf:=by intro w' hF; refine EN 78 (.tmp 7) ?_ _ ?_ 78 _ (0,0) _ (hF.get 4 rfl rfl) Try.underlying78 rfl (by kernel_rfl) <;> rfl)
  refine pu 4 64 Zv ?_
  refine tk 5 65 Zw hHeld ?_ (hf:=by intro w' s0; have Cb:=s0.CO 5 rfl rfl; clear s0; go_simp; with_reducible rfl)
  refine on 6 (some 66) Zx fun K hK => ?_
  refine BH Try.func87 (by kernel_rfl) rfl #[_,_,_] (by rfl) rfl rfl (by (try simp only [List.map_toArray,List.map_cons,List.map_nil]); first | done | rfl) ?_
  refine (show Calls Try.prog 87 _ _ _ from Rq (FS.out.slt HS.out) L' Ed A7 c7 A8 c8 4 bd A9 c9 B3.out FP.out).mono ?_
  rintro e w' ⟨⟨XK,c10,rfl,Ky,IL⟩,hb2⟩
  refine ⟨_,rfl,?_⟩
  have F4:=Lib.hid (FS.out.below hb2)
  have E4:=Lib.hid (E3.out.below hb2)
  have QO:=Lib.hid Ky
  have QS:=Lib.hid IL
  clear Ky IL hb2 hHeld E3 FS
  refine hK.out _ _ (F4.out) (fun hHeld => ?_)
  clear hK K
  refine nm 66 ?_
  refine on 7 (some 67) Zy fun K hK => ?_
  refine BH Try.func86 (by kernel_rfl) rfl #[_,_,_] (by rfl) rfl rfl (by (try simp only [List.map_toArray,List.map_cons,List.map_nil]); first | done | rfl) ?_
  refine (show Calls Try.prog 86 _ _ _ from JW (F4.out.slt HS.out) E4.out s EJ.out (QM L' 4 bd) XK c10 QO.out QS.out (by rw [Pr.Pr.Ae]; exact Uk.out)).mono ?_
  rintro e w' ⟨⟨SB,rfl,SC⟩,hb2⟩
  refine ⟨_,rfl,?_⟩
  have F5:=Lib.hid (F4.out.below hb2)
  have E5:=Lib.hid SC
  clear SC hb2 hHeld F4 E4
  refine hK.out _ _ (F5.out) (fun hHeld => ?_)
  clear hK K
  refine nm 67 ?_
  refine la 8 none Zz fun K hK => ?_
  refine row_step (by rfl) rfl 84 (.tmp 2) (.tmp 67) rfl _ _ rfl rfl 84 _ (F5.out.get 0 rfl rfl) (CU E5.out.size) (Ik.out.trans E5.out.size.symm) E5.out.one (fun w7 hb7 Ba => ?_)
  exact Z10
 ·have ku:=Lib.hid hdn
  have kz:=Lib.hid hup
  have lC:=Lib.hid (show bd.length = 0 from by omega)
  have tq:=Lib.hid (show ¬ (0 < bd.length) from by exact Hg)
  clear hdn hup hbl Hg
  go_enter Try.func90,Try.ntmps90
  go_wp2_with (first | ((with_reducible refine AO (N:=14) rfl ?_); (refine wpList_load_mid rfl 163 (.tmp 13) rfl g (o + i * 12) (by first | rfl | (simp; done)) [.int .i64 (s:Int),.int .u32 AB,.int .i64 p.kind,.int .u32 p.mine,.int .u32 p.AB,.int .u32 p.yours,.int .u32 p.seq,.int .u32 p.AV,.int .u32 p.stamp,.int .u32 p.echo,.complex .f64 p.zr p.zi,.slice Ab p.body.length cb] _ (fun j v hv => Bl (Io w _ _) (Qk.out j v hv)) Try.underlying163 rfl (by kernel_rfl) ?_)) | (go_at_call 91; (have F2:=Fm.three w cs #[.int .u32 0,.int .i64 0,.int .u32 0,.int .u32 0,.int .u32 0,.bool false,.slice none 0 0,.int .i64 0,.int .u32 0,.int .u32 0,.int .i64 0,.slice none 0 0,.int .u32 0,.int .i64 0,.int .u32 0,.int .u32 0,.int .u32 0,.bool false,.slice none 0 0,.int .i64 0,.int .u32 0,.int .u32 0,.int .i64 0,.slice none 0 0,.slice none 0 0,.slice none 0 0,.slice none 0 0] #[.int .i64 (s:Int),.int .u32 AB,.int .i64 p.kind,.int .u32 p.mine,.int .u32 p.AB,.int .u32 p.yours,.int .u32 p.seq,.int .u32 p.AV,.int .u32 p.stamp,.int .u32 p.echo,.complex .f64 p.zr p.zi,.slice Ab p.body.length cb] 84 84 163); (obtain ⟨w0,hw0⟩:∃ w0,w0 = ((w.alloc (.cells cs 84)).alloc (.cells #[.int .u32 0,.int .i64 0,.int .u32 0,.int .u32 0,.int .u32 0,.bool false,.slice none 0 0,.int .i64 0,.int .u32 0,.int .u32 0,.int .i64 0,.slice none 0 0,.int .u32 0,.int .i64 0,.int .u32 0,.int .u32 0,.int .u32 0,.bool false,.slice none 0 0,.int .i64 0,.int .u32 0,.int .u32 0,.int .i64 0,.slice none 0 0,.slice none 0 0,.slice none 0 0,.slice none 0 0] 84)).alloc (.cells #[.int .i64 (s:Int),.int .u32 AB,.int .i64 p.kind,.int .u32 p.mine,.int .u32 p.AB,.int .u32 p.yours,.int .u32 p.seq,.int .u32 p.AV,.int .u32 p.stamp,.int .u32 p.echo,.complex .f64 p.zr p.zi,.slice Ab p.body.length cb] 163):=⟨_,rfl⟩); (rw [← hw0] at F2 ⊢); (clear hw0); (have F:=Lib.hid F2); (clear F2); (have E:=Lib.hid ((HP.out.up F.out.up).below F.out.bw)); (have G:=Lib.hid ((JG.out.up F.out.up).below F.out.bw)); (have B:=Lib.hid ((BB.out.up F.out.up).below F.out.bw)); (refine Go.Calls.mono (show Calls Try.prog 91 _ _ _ from JE (F.out.slt HS.out) X.way _ cw ((kZ.out.up (by decide) F.out.up).below F.out.bw) Ud.out i wW.out HY.out) ?_); (intro e w1 hq); (obtain ⟨⟨A5,c5,he,hL5,hc5⟩,hb2⟩:=hq); (subst he); (have Rn:=Lib.hid hL5); (have Ns:=Lib.hid hc5); (have F2:=Lib.hid (F.out.below hb2)); (have E2:=Lib.hid (E.out.below hb2)); (have G2:=Lib.hid (G.out.below hb2)); (have B2:=Lib.hid (B.out.below hb2)); (clear G B); (have G:=G2); (have B:=B2); (clear G2 B2); (clear hL5 hc5 hb2); (clear F E); (have F:=F2); (have E:=E2); (clear F2 E2)) | ((with_reducible refine gate_ (.store 82 (.tmp 19) (.tmp 18)) rfl ?_); (refine F.out.st1 0 (v:=.slice A5 (X.way.eraseIdx i).length c5) rfl rfl 82 (.tmp 19) (.tmp 18) rfl rfl rfl rfl rfl rfl (by have:=E.out.size; omega) (by kernel_rfl) rfl ?_); (intro w2 hF hA); (have F2:=Lib.hid hF); (have E2:=Lib.hid (RP.UZ (E.out.keep (AP hA (AX 0 rfl))) Ns.out (Rn.out.keep (AP hA (AX 0 rfl))))); (have G2:=Lib.hid (G.out.keep (AP hA (AX 0 rfl)))); (have B2:=Lib.hid (B.out.keep (AP hA (AX 0 rfl)))); (clear G B); (have G:=G2); (have B:=B2); (clear G2 B2); (clear hF hA Rn Ns); (clear F E); (have F:=F2); (have E:=E2); (clear F2 E2); (have Cb:=F.out.CO 0 rfl rfl); (have OH:=F.out.CO 2 rfl rfl)) | ((with_reducible refine AO (N:=24) rfl ?_); (refine F.out.Vb 0 (s * 12) rfl 78 (.tmp 23) rfl rfl rfl (by first | rfl | (simp; done)) [.int .u32 L.own,.int .i64 L.phase,.int .u32 L.token,.int .u32 L.AB,.int .u32 L.yours,.bool L.known,.slice Aq L.queue.length cq,.int .i64 L.sent,.int .u32 nx,.int .u32 L.expected,.int .i64 L.idle,.slice Ao L.out.length co] (fun j v hv => (Array.getElem?_setIfInBounds_ne (by have hj:j < 12:=(List.getElem?_eq_some_iff.1 hv).1; have:=EJ.out; omega)).trans (Jk.out j v hv)) Try.underlying78 rfl (by kernel_rfl) ?_)) | ((with_reducible refine AO (N:=26) rfl ?_); (clear Cb OH); (have F2:=Lib.hid (F.out.add rfl #[.int .u32 L.own,.int .i64 L.phase,.int .u32 L.token,.int .u32 L.AB,.int .u32 L.yours,.bool L.known,.slice Aq L.queue.length cq,.int .i64 L.sent,.int .u32 nx,.int .u32 L.expected,.int .i64 L.idle,.slice Ao L.out.length co] 78)); (have FI:Below w2.heap.size w2 (w2.alloc (.cells #[.int .u32 L.own,.int .i64 L.phase,.int .u32 L.token,.int .u32 L.AB,.int .u32 L.yours,.bool L.known,.slice Aq L.queue.length cq,.int .i64 L.sent,.int .u32 nx,.int .u32 L.expected,.int .i64 L.idle,.slice Ao L.out.length co] 78)):=UL w2 _); (have E2:=Lib.hid ((E.out.up (Fm.Dn (t:=78))).below FI)); (have G2:=Lib.hid ((G.out.up (Fm.Dn (t:=78))).below FI)); (have B2:=Lib.hid ((B.out.up (Fm.Dn (t:=78))).below FI)); (clear FI); (obtain ⟨w3,hw3⟩:∃ ww,ww = w2.alloc (.cells #[.int .u32 L.own,.int .i64 L.phase,.int .u32 L.token,.int .u32 L.AB,.int .u32 L.yours,.bool L.known,.slice Aq L.queue.length cq,.int .i64 L.sent,.int .u32 nx,.int .u32 L.expected,.int .i64 L.idle,.slice Ao L.out.length co] 78):=⟨_,rfl⟩); (rw [← hw3] at F2 E2 G2 B2 ⊢); (clear hw3); (clear F E G B); (have F:=F2); (have E:=E2); (have G:=G2); (have B:=B2); (clear F2 E2 G2 B2); (have Cb:=F.out.CO 0 rfl rfl); (have OH:=F.out.CO 2 rfl rfl)) | ((with_reducible refine AO (N:=26) rfl ?_); (refine F.out.ld 3 rfl 78 (.tmp 6) rfl rfl rfl rfl Try.underlying78 rfl (by kernel_rfl) ?_)) | ((with_reducible refine AO (N:=30) rfl ?_); (refine F.out.Vb 2 2 rfl 27 (.tmp 29) rfl rfl rfl rfl [.int .i64 p.kind,.int .u32 p.mine,.int .u32 p.AB,.int .u32 p.yours,.int .u32 p.seq,.int .u32 p.AV,.int .u32 p.stamp,.int .u32 p.echo,.complex .f64 p.zr p.zi,.slice Ab p.body.length cb] (fun j v hv => hv) Try.underlying27 rfl (by kernel_rfl) ?_)) | (go_at_call 119; (clear Cb OH); (refine Go.Calls.mono (show Calls Try.prog 119 _ _ _ from QN (F.out.slt HS.out) Jf.out G.out AB p Ab cb HB0.out KE.out B.out HR.out) ?_); (intro e w4 hq); (obtain ⟨⟨Ed,A7,c7,A8,c8,A9,c9,he,BM,ZJ,Bh⟩,hb2⟩:=hq); (subst he); (have WA:=Lib.hid Bh); (have F2:=Lib.hid (F.out.below hb2)); (have E2:=Lib.hid (E.out.below hb2)); (have G2:=Lib.hid BM); (have B2:=Lib.hid ZJ); (clear BM ZJ hb2 Bh); (clear F E G B); (have F:=F2); (have E:=E2); (have G:=G2); (have B:=B2); (clear F2 E2 G2 B2)) | ((with_reducible refine AO (N:=35) rfl ?_); (have F2:=Lib.hid (F.out.dI rfl #[.int .u32 L'.own,.int .i64 L'.phase,.int .u32 L'.token,.int .u32 L'.AB,.int .u32 L'.yours,.bool L'.known,.slice A7 L'.queue.length c7,.int .i64 L'.sent,.int .u32 Ed,.int .u32 L'.expected,.int .i64 L'.idle,.slice A8 L'.out.length c8] 78 #[.bool hd,.bool up,.bool dn,.slice A9 bd.length c9] 194)); (have FI:Below w4.heap.size w4 ((w4.alloc (.cells #[.int .u32 L'.own,.int .i64 L'.phase,.int .u32 L'.token,.int .u32 L'.AB,.int .u32 L'.yours,.bool L'.known,.slice A7 L'.queue.length c7,.int .i64 L'.sent,.int .u32 Ed,.int .u32 L'.expected,.int .i64 L'.idle,.slice A8 L'.out.length c8] 78)).alloc (.cells #[.bool hd,.bool up,.bool dn,.slice A9 bd.length c9] 194)):=Io w4 _ _); (have E2:=Lib.hid ((E.out.up (Ef (t:=78) (t':=194))).below FI)); (have G2:=Lib.hid ((G.out.up (Ef (t:=78) (t':=194))).below FI)); (have B2:=Lib.hid ((B.out.up (Ef (t:=78) (t':=194))).below FI)); (clear FI); (obtain ⟨w5,hw5⟩:∃ ww,ww = (w4.alloc (.cells #[.int .u32 L'.own,.int .i64 L'.phase,.int .u32 L'.token,.int .u32 L'.AB,.int .u32 L'.yours,.bool L'.known,.slice A7 L'.queue.length c7,.int .i64 L'.sent,.int .u32 Ed,.int .u32 L'.expected,.int .i64 L'.idle,.slice A8 L'.out.length c8] 78)).alloc (.cells #[.bool hd,.bool up,.bool dn,.slice A9 bd.length c9] 194):=⟨_,rfl⟩); (rw [← hw5] at F2 E2 G2 B2 ⊢); (clear hw5); (clear F E G B); (have F:=F2); (have E:=E2); (have G:=G2); (have B:=B2); (clear F2 E2 G2 B2); (have Cb:=F.out.CO 0 rfl rfl); (have OH:=F.out.CO 2 rfl rfl); (have Ui:=F.out.CO 5 rfl rfl)) | ((with_reducible refine AO (N:=37) rfl ?_); (refine F.out.ld 4 rfl 78 (.tmp 7) rfl rfl rfl rfl Try.underlying78 rfl (by kernel_rfl) ?_)) | ((with_reducible refine gate_ (.store 78 (.tmp 39) (.tmp 37)) rfl ?_); (clear Cb OH Ui); (refine F.out.Y5 0 (s * 12) (r:=#[.int .u32 L'.own,.int .i64 L'.phase,.int .u32 L'.token,.int .u32 L'.AB,.int .u32 L'.yours,.bool L'.known,.slice A7 L'.queue.length c7,.int .i64 L'.sent,.int .u32 Ed,.int .u32 L'.expected,.int .i64 L'.idle,.slice A8 L'.out.length c8]) rfl rfl 78 (.tmp 39) (.tmp 37) rfl rfl rfl (by first | rfl | (simp; done)) rfl (by have:=E.out.size; have:=EJ.out; show s * 12 + 12 ≤ _; omega) (by kernel_rfl) (by kernel_rfl) ?_); (intro w6 hF hA); (have F2:=Lib.hid hF); (have E2:=Lib.hid (RP.N9 (E.out.keep (AP hA (AX 0 rfl))) EJ.out (G.out.keep (AP hA (AX 0 rfl))))); (have G2:=Lib.hid (G.out.keep (AP hA (AX 0 rfl)))); (have B2:=Lib.hid (B.out.keep (AP hA (AX 0 rfl)))); (clear hF hA); (clear F E G B); (have F:=F2); (have E:=E2); (have G:=G2); (have B:=B2); (clear F2 E2 G2 B2); (have Ui:=F.out.CO 5 rfl rfl); (have hdn:=ku.out); (have hup:=kz.out); (have hbz:=lC.out); (have Ik:=Lib.hid E.out.size); (have dB:=Lib.hid E.out.one)) | ((with_reducible refine AO (N:=68) rfl ?_); (refine F.out.ld 0 rfl 84 (.tmp 2) rfl rfl rfl rfl Try.underlying84 rfl (CU Ik.out) ?_)) | ((with_reducible refine gate_ (.store 84 (.tmp 4) (.tmp 68)) rfl ?_); (refine F.out.st 1 rfl rfl 84 (.tmp 4) (.tmp 68) rfl rfl rfl rfl rfl (CU Ik.out) Ik.out.symm dB.out ?_); (intro w8 hF hA); (have F8:=Lib.hid hF); (have E8:=Lib.hid (E.out.keep (AP hA (AX 1 rfl)))); (clear hF hA)))
  have Dt:=run_loadVar_row (P:=Try.prog) w8 _ 84 84 _ (0,0) _ (F8.out.get 1 rfl rfl) Try.underlying84 rfl (CU Ik.out)
  refine bodyPost_ret (v:=_) (Pk.results_cell Try.results90 _ _ rfl Dt) rfl ?_
  refine ⟨⟨_,rfl,?_⟩,F8.out.bw⟩
  unfold takeD
  simp only [hdn,hup,tq.out,if_true,if_false,Bool.false_eq_true]
  exact E8.out.up EH
end Go.Proofs.Ytnkkgofpifhoeaa.Rf
end
