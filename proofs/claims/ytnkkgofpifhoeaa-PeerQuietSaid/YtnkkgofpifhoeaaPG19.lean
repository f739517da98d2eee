/- What the laws of a pair are proved with: links and pairs in memory, what their methods do, what a pair keeps to (part 19). -/
import Derived.Test.YtnkkgofpifhoeaaPG10
import Derived.Test.YtnkkgofpifhoeaaPG15
import Derived.Test.YtnkkgofpifhoeaaPG16
import Derived.Test.YtnkkgofpifhoeaaPG17
import Derived.Test.YtnkkgofpifhoeaaPG18
import Derived.Laws.StructEq
import Derived.Deep.LoopGhost
import Derived.Lib.Hide
set_option linter.unusedSimpArgs false
set_option linter.unusedVariables false
set_option maxRecDepth 100000
set_option maxHeartbeats 16000000
namespace Go.Proofs.Ytnkkgofpifhoeaa
theorem qA {p:Prop} (h:p:=by
 have hd4:decide (L.idle + 1 < 3) = true:=by simp [hi]
 clear hp
 go_enter Try.func33,Try.ntmps33
 go_wp2_with (first | ((with_reducible refine gate_ (.store 3 (.tmp 33) (.tmp 31)) rfl ?_); (refine AY (fun wz => At wz B Af Ac g (Dk L (L.idle + 1)) q o ∧ Go.Proofs.Ytnkkgofpifhoeaa.Steps.At g w wz) rfl rfl ⟨_,(by have hz1:World.cell? _ ⟨g,10,none⟩ = some _:=(AA H.out.blk 10).trans rfl; have hz2:=AB H.out.blk 10; first | (go_simp; done) | (go_simp; rfl)),H.out.F6 10 _ rfl rfl rfl,Steps.At.set (Steps.At.refl _ _) _ _⟩ (fun Bl hF => ?_)); (have K1:=Lib.hid hF); (clear hF); (clear hl1 He JD); (have hl1:Bl.cell? ⟨g,1,none⟩ = some (.int .i64 L.phase):=(AA K1.out.1.blk 1).trans rfl); (have JD:Bl.cell? ⟨g,10,none⟩ = some (.int .i64 (L.idle + 1)):=(AA K1.out.1.blk 10).trans rfl)))
 all_goals ((first | go_end0 | (refine bodyPost_ret (results_none rfl _ _ _) rfl ?_)); exact ⟨rfl,⟨⟨_,_,_,_,K1.out.1,fun k hk => .inl (HOW.out k hk)⟩,(EE K1.out.2).mono (fun k hk => HOW.out k (.inr (.inr hk))),K1.out.2.below (Below.refl _ _) H.out.low⟩⟩)):p:=h
end Go.Proofs.Ytnkkgofpifhoeaa
section
namespace Go.Proofs.Ytnkkgofpifhoeaa.Lk
open Go.RowKit Go.Proofs.Ytnkkgofpifhoeaa.Base Go.Proofs.Ytnkkgofpifhoeaa.Pk Go.Proofs.YtnkkgofpifhoeaaW.PrintWords
def RN (L:Lk) (p:BJ):Nat:=(IntKind.u32.wrap (p.AX - L.base)).toNat
def MV (L:Lk) (p:BJ):Lk:=if p.kind = 2 ∧ p.seq = L.expected then BD L else L
def UU (L:Lk) (p:BJ):Lk:=if 1 ≤ RN L p ∧ (RN L p:Int) ≤ L.sent then BX (Cj (MV L p) (RN L p)) else MV L p
def XM (L:Lk) (p:BJ):Lk:=if p.kind = 2 then emit_ (UU L p) (MC (UU L p)) else UU L p
def iP (L:Lk) (p:BJ):List Int:=if p.kind = 2 ∧ p.seq = L.expected then p.body else []
structure Tk where
 heard:Bool
 up:Bool
 down:Bool
 body:List Int
def JK (L:Lk) (AL:Int) (p:BJ):Lk:={ L with AL:=AL,yours:=p.mine,known:=true }
def BM (L:Lk) (AL:Int) (p:BJ):Lk × Tk :=
 if L.phase = 0 ∨ Dj L AL p.mine = -1 then (L,⟨false,false,false,[]⟩)
 else if p.kind = 1 then
  if L.phase = 1 then
   if BU L p = true then (emit_ { JK L AL p with phase:=2 } (CY { JK L AL p with phase:=2 }),⟨true,true,false,[]⟩)
   else (emit_ (JK L AL p) (CY (JK L AL p)),⟨true,false,false,[]⟩)
  else if Dj L AL p.mine = 0 then (if p.seq = 0 then emit_ L (CY L) else L,⟨true,false,false,[]⟩)
  else if L.token = 4294967295 then (FV L,⟨true,false,true,[]⟩)
  else (emit_ (JK (EK L) AL p) (CY (JK (EK L) AL p)),⟨true,false,true,[]⟩)
 else if L.phase = 2 ∧ Dj L AL p.mine = 0 ∧ BU L p = true then (XM L p,⟨true,false,false,iP L p⟩)
 else (L,⟨false,false,false,[]⟩)
theorem YL (L:Lk) (AL mine:Int):Dj L AL mine = -1 ∨ Dj L AL mine = 0 ∨ Dj L AL mine = 1:=by
 unfold Dj
 split
 ·exact .inl rfl
 ·split
  ·split
   ·exact .inl rfl
   ·split
    ·exact .inr (.inl rfl)
    ·exact .inr (.inr rfl)
  ·exact .inr (.inr rfl)
def QT (w:World) (B:Nat) (S:Nat → Prop) (g:Nat) (x:Lk × Tk):Ending → World → Prop:=Ei w B S g x.1 x.2.heard x.2.up x.2.down x.2.body
theorem WE {w:World} {B g:Nat} {Af Ac S:Nat → Prop} {L:Lk} {q o:Value} (h:At w B Af Ac g L q o) (hok:L.Ok) (hS:∀ k,holds Af Ac g k → S k) (hB:B ≤ w.heap.size) (AL:Int) (p:BJ) (Ab:Option Addr) (cb:Nat)
  (hb0:AL ≠ 0) (hbr:0 ≤ AL ∧ AL < 4294967296) (hpr:p.Jw) (hck:Ah p.kind p.mine p.AL p.yours p.seq p.AX p.stamp p.echo p.zr p.zi p.body.length = 0) (hpl:p.body.length ≤ 1000)
  {DI:Nat → Prop} (hR:(Kd.int .u8).R 5 w B DI (.slice Ab p.body.length cb) p.body) (hkp:∀ k,DI k → ¬ S k) :
  Calls Try.prog 34 #[.pointer (some ⟨g,0,none⟩),.int .u32 AL,.agg #[.int .i64 p.kind,.int .u32 p.mine,.int .u32 p.AL,.int .u32 p.yours,.int .u32 p.seq,.int .u32 p.AX,.int .u32 p.stamp,.int .u32 p.echo,.complex .f64 p.zr p.zi,.slice Ab p.body.length cb]] w (QT w B S g (BM L AL p)):=by
 have Ci:=hok.phase
 have hag:=YL L AL p.mine
 unfold QT BM
 by_cases h0:L.phase = 0
 ·rw [if_pos (.inl h0)]
  exact RI h hok hS hB AL p Ab cb hb0 hbr hpr hck h0
 by_cases ho:Dj L AL p.mine = -1
 ·rw [if_pos (.inr ho)]
  exact UI h hok hS hB AL p Ab cb hb0 hbr hpr hck h0 ho
 rw [if_neg (fun x => x.elim h0 ho)]
 by_cases hk:p.kind = 1
 ·rw [if_pos hk]
  by_cases h1:L.phase = 1
  ·rw [if_pos h1]
   by_cases hm:BU L p = true
   ·rw [if_pos hm]
    exact Ou h hok hS hB AL p Ab cb hb0 hbr hpr hck h1 (by omega) hk hm
   ·rw [if_neg hm]
    exact Ov h hok hS hB AL p Ab cb hb0 hbr hpr hck h1 (by omega) hk (by simpa using hm)
  ·rw [if_neg h1]
   have h2:L.phase = 2:=by omega
   by_cases ha:Dj L AL p.mine = 0
   ·rw [if_pos ha]
    by_cases hs:p.seq = 0
    ·rw [if_pos hs]
     exact NP h hok hS hB AL p Ab cb hb0 hbr hpr hck h2 ha hk hs
    ·rw [if_neg hs]
     exact NQ h hok hS hB AL p Ab cb hb0 hbr hpr hck h2 ha hk hs
   ·rw [if_neg ha]
    by_cases hmx:L.token = 4294967295
    ·rw [if_pos hmx]
     exact Oy h hok hS hB AL p Ab cb hb0 hbr hpr hck h2 (by omega) hk hmx
    ·rw [if_neg hmx]
     exact Oz h hok hS hB AL p Ab cb hb0 hbr hpr hck h2 (by omega) hk hmx
 rw [if_neg hk]
 by_cases hu:L.phase = 2 ∧ Dj L AL p.mine = 0 ∧ BU L p = true
 ·rw [if_pos hu]
  obtain ⟨h2,ha,hm⟩:=hu
  have hkk:IntKind.u32.wrap (p.AX - L.base) = (RN L p:Int):=(Int.toNat_of_nonneg (wrap32 _).1).symm
  generalize hkn:RN L p = kn at hkk
  unfold XM UU iP
  rw [hkn]
  by_cases hd:p.kind = 2
  ·by_cases hs:p.seq = L.expected
   ·have hM:MV L p = BD L:=by unfold MV; rw [if_pos (show p.kind = 2 ∧ p.seq = L.expected from ⟨hd,hs⟩)]
    rw [hM,if_pos hd,if_pos (show p.kind = 2 ∧ p.seq = L.expected from ⟨hd,hs⟩)]
    by_cases hz:kn = 0
    ·rw [if_neg (by omega)]
     exact O9 h hok hS hB AL p Ab cb hb0 hbr hpr hck h2 ha hm hpl hR hkp kn hkk hd hs hz
    ·by_cases hle:(kn:Int) ≤ L.sent
     ·rw [if_pos ⟨by omega,hle⟩]
      exact O8 h hok hS hB AL p Ab cb hb0 hbr hpr hck h2 ha hm hpl hR hkp kn hkk hd hs (by omega) hle
     ·rw [if_neg (fun x => hle x.2)]
      exact PD h hok hS hB AL p Ab cb hb0 hbr hpr hck h2 ha hm hpl hR hkp kn hkk hd hs (by omega) (by omega)
   ·have hM:MV L p = L:=by unfold MV; rw [if_neg (fun x => hs x.2)]
    rw [hM,if_pos hd,if_neg (show ¬ (p.kind = 2 ∧ p.seq = L.expected) from fun x => hs x.2)]
    by_cases hz:kn = 0
    ·rw [if_neg (by omega)]
     exact O6 h hok hS hB AL p Ab cb hb0 hbr hpr hck h2 ha hm hpl hR hkp kn hkk hd hs hz
    ·by_cases hle:(kn:Int) ≤ L.sent
     ·rw [if_pos ⟨by omega,hle⟩]
      exact O5 h hok hS hB AL p Ab cb hb0 hbr hpr hck h2 ha hm hpl hR hkp kn hkk hd hs (by omega) hle
     ·rw [if_neg (fun x => hle x.2)]
      exact O7 h hok hS hB AL p Ab cb hb0 hbr hpr hck h2 ha hm hpl hR hkp kn hkk hd hs (by omega) (by omega)
  ·have hM:MV L p = L:=by unfold MV; rw [if_neg (fun x => hd x.1)]
   rw [hM,if_neg hd,if_neg (show ¬ (p.kind = 2 ∧ p.seq = L.expected) from fun x => hd x.1)]
   by_cases hz:kn = 0
   ·rw [if_neg (by omega)]
    exact O3 h hok hS hB AL p Ab cb hb0 hbr hpr hck h2 ha hm hpl hR hkp kn hkk hk hd hz
   ·by_cases hle:(kn:Int) ≤ L.sent
    ·rw [if_pos ⟨by omega,hle⟩]
     exact O0 h hok hS hB AL p Ab cb hb0 hbr hpr hck h2 ha hm hpl hR hkp kn hkk hk hd (by omega) hle
    ·rw [if_neg (fun x => hle x.2)]
     exact O4 h hok hS hB AL p Ab cb hb0 hbr hpr hck h2 ha hm hpl hR hkp kn hkk hk hd (by omega) (by omega)
 ·rw [if_neg hu]
  by_cases h1:L.phase = 1
  ·exact UK h hok hS hB AL p Ab cb hb0 hbr hpr hck h1 (by omega) hk
  ·have h2:L.phase = 2:=by omega
   by_cases ha:Dj L AL p.mine = 0
   ·exact UM h hok hS hB AL p Ab cb hb0 hbr hpr hck h2 ha hk (by
     cases hm:BU L p
     ·rfl
     ·exact absurd ⟨h2,ha,hm⟩ hu)
   ·exact UL h hok hS hB AL p Ab cb hb0 hbr hpr hck h2 (by omega) hk
end Go.Proofs.Ytnkkgofpifhoeaa.Lk
end
section
namespace Go.Proofs.Ytnkkgofpifhoeaa.Lk
open Go.RowKit Go.Proofs.Ytnkkgofpifhoeaa.Base Go.Proofs.Ytnkkgofpifhoeaa.Steps Go.Proofs.YtnkkgofpifhoeaaW.PrintWords Go.Proofs.YtnkkgofpifhoeaaW.PrintLast
def sends:Nat → Lk → Lk
 | 0,L => L
 | n + 1,L => emit_ (sends n L) (Gw L n)
def Dk (L:Lk) (d:Int):Lk:={ L with idle:=d }
def IG (L:Lk):Lk :=
 if L.phase = 0 then L
 else if L.phase = 2 ∧ L.sent = 0 then Dk L 0
 else if L.idle + 1 < 3 then Dk L (L.idle + 1)
 else if L.phase = 1 then emit_ (Dk L 0) (CY (Dk L 0))
 else sends L.sent.toNat (Dk L 0)
theorem RP (L:Lk) (p:BJ) (i:Int):Gw (emit_ L p) i = Gw L i:=by unfold emit_; split <;> rfl
theorem PE (n:Nat) (L:Lk) (i:Int):Gw (sends n L) i = Gw L i:=by
 induction n with
 | zero => rfl
 | succ n ih => exact (RP _ _ _).trans ih
theorem PG (L:Lk) (p:BJ):(emit_ L p).queue = L.queue:=by unfold emit_; split <;> rfl
theorem NR (n:Nat) (L:Lk):(sends n L).queue = L.queue:=by
 induction n with
 | zero => rfl
 | succ n ih => exact (PG _ _).trans ih
theorem UW {L:Lk} (h:L.Ok) (n:Nat):(sends n L).Ok:=by
 induction n with
 | zero => exact h
 | succ n ih => exact Lu ih _
theorem MF {L:Lk} (h:L.Ok) {d:Int} (hd:0 ≤ d ∧ d ≤ 1000):(Dk L d).Ok:=⟨h.own,h.phase,h.token,h.AL,h.yours,h.queue,h.rows,h.sent,h.base,h.expected,hd,h.out⟩
theorem RQ {w:World} {B g:Nat} {Af Ac:Nat → Prop} {L:Lk} {q o:Value} (h:At w B Af Ac g L q o) (hok:L.Ok) (hB:B ≤ w.heap.size) (hp:L.phase = 0) {own:Nat → Prop} (ho:∀ k,holds Af Ac g k → own k) :
  Calls Try.prog 33 #[.pointer (some ⟨g,0,none⟩)] w fun e w' => e = .returned (.tuple #[]) ∧ Bg w B own g (L) w':=by
 have hl1:w.cell? ⟨g,1,none⟩ = some (.int .i64 L.phase):=(AA h.blk 1).trans rfl
 have He:w.cell? ⟨g,7,none⟩ = some (.int .i64 L.sent):=(AA h.blk 7).trans rfl
 have JD:w.cell? ⟨g,10,none⟩ = some (.int .i64 L.idle):=(AA h.blk 10).trans rfl
 have hs:=hok.sent
 have hid:=hok.idle
 have H:=Lib.hid h
 have OK:=Lib.hid hok
 have HOW:=Lib.hid ho
 clear h hok ho
 have hd:(L.phase == 0) = true:=by simp [hp]
 clear hp
 go_enter Try.func33,Try.ntmps33
 go_wp2_with (first | fail)
 all_goals ((first | go_end0 | (refine bodyPost_ret (results_none rfl _ _ _) rfl ?_)); exact ⟨rfl,Bg.same ⟨_,_,_,_,H.out,HOW.out⟩⟩)
theorem RS {w:World} {B g:Nat} {Af Ac:Nat → Prop} {L:Lk} {q o:Value} (h:At w B Af Ac g L q o) (hok:L.Ok) (hB:B ≤ w.heap.size) (hp:L.phase = 2) (h0:L.sent = 0) {own:Nat → Prop} (ho:∀ k,holds Af Ac g k → own k) :
  Calls Try.prog 33 #[.pointer (some ⟨g,0,none⟩)] w fun e w' => e = .returned (.tuple #[]) ∧ Bg w B own g (Dk L 0) w':=by
 have hl1:w.cell? ⟨g,1,none⟩ = some (.int .i64 L.phase):=(AA h.blk 1).trans rfl
 have He:w.cell? ⟨g,7,none⟩ = some (.int .i64 L.sent):=(AA h.blk 7).trans rfl
 have JD:w.cell? ⟨g,10,none⟩ = some (.int .i64 L.idle):=(AA h.blk 10).trans rfl
 have hs:=hok.sent
 have hid:=hok.idle
 have H:=Lib.hid h
 have OK:=Lib.hid hok
 have HOW:=Lib.hid ho
 clear h hok ho
 have hd:(L.phase == 0) = false:=by simp [hp]
 have hd2:(L.phase == 2) = true:=by simp [hp]
 have hd3:(L.sent == 0) = true:=by simp [h0]
 clear hp h0
 go_enter Try.func33,Try.ntmps33
 go_wp2_with (first | ((with_reducible refine gate_ (.store 3 (.tmp 26) (.const (.int .i64 0))) rfl ?_); (refine AY (fun wz => At wz B Af Ac g (Dk L (0)) q o ∧ Go.Proofs.Ytnkkgofpifhoeaa.Steps.At g w wz) rfl rfl ⟨_,(by have hz1:World.cell? _ ⟨g,10,none⟩ = some _:=(AA H.out.blk 10).trans rfl; have hz2:=AB H.out.blk 10; first | (go_simp; done) | (go_simp; rfl)),H.out.F6 10 _ rfl rfl rfl,Steps.At.set (Steps.At.refl _ _) _ _⟩ (fun Bl hF => ?_)); (have K1:=Lib.hid hF); (clear hF)))
 all_goals ((first | go_end0 | (refine bodyPost_ret (results_none rfl _ _ _) rfl ?_)); exact ⟨rfl,⟨⟨_,_,_,_,K1.out.1,fun k hk => .inl (HOW.out k hk)⟩,(EE K1.out.2).mono (fun k hk => HOW.out k (.inr (.inr hk))),K1.out.2.below (Below.refl _ _) H.out.low⟩⟩)
theorem PI {w:World} {B g:Nat} {Af Ac:Nat → Prop} {L:Lk} {q o:Value} (h:At w B Af Ac g L q o) (hok:L.Ok) (hB:B ≤ w.heap.size) (hp:L.phase = 1) (hi:L.idle + 1 < 3) {own:Nat → Prop} (ho:∀ k,holds Af Ac g k → own k) :
  Calls Try.prog 33 #[.pointer (some ⟨g,0,none⟩)] w fun e w' => e = .returned (.tuple #[]) ∧ Bg w B own g (Dk L (L.idle + 1)) w':=by
 have hl1:w.cell? ⟨g,1,none⟩ = some (.int .i64 L.phase):=(AA h.blk 1).trans rfl
 have He:w.cell? ⟨g,7,none⟩ = some (.int .i64 L.sent):=(AA h.blk 7).trans rfl
 have JD:w.cell? ⟨g,10,none⟩ = some (.int .i64 L.idle):=(AA h.blk 10).trans rfl
 have hs:=hok.sent
 have hid:=hok.idle
 have H:=Lib.hid h
 have OK:=Lib.hid hok
 have HOW:=Lib.hid ho
 clear h hok ho
 have hd:(L.phase == 0) = false:=by simp [hp]
 have hd2:(L.phase == 2) = false:=by simp [hp]
 exact qA
theorem PK {w:World} {B g:Nat} {Af Ac:Nat → Prop} {L:Lk} {q o:Value} (h:At w B Af Ac g L q o) (hok:L.Ok) (hB:B ≤ w.heap.size) (hp:L.phase = 2) (h0:¬ L.sent = 0) (hi:L.idle + 1 < 3) {own:Nat → Prop} (ho:∀ k,holds Af Ac g k → own k) :
  Calls Try.prog 33 #[.pointer (some ⟨g,0,none⟩)] w fun e w' => e = .returned (.tuple #[]) ∧ Bg w B own g (Dk L (L.idle + 1)) w':=by
 have hl1:w.cell? ⟨g,1,none⟩ = some (.int .i64 L.phase):=(AA h.blk 1).trans rfl
 have He:w.cell? ⟨g,7,none⟩ = some (.int .i64 L.sent):=(AA h.blk 7).trans rfl
 have JD:w.cell? ⟨g,10,none⟩ = some (.int .i64 L.idle):=(AA h.blk 10).trans rfl
 have hs:=hok.sent
 have hid:=hok.idle
 have H:=Lib.hid h
 have OK:=Lib.hid hok
 have HOW:=Lib.hid ho
 clear h hok ho
 have hd:(L.phase == 0) = false:=by simp [hp]
 have hd2:(L.phase == 2) = true:=by simp [hp]
 have hd3:(L.sent == 0) = false:=by simp [h0]
 clear h0
 exact qA
theorem PL {w:World} {B g:Nat} {Af Ac:Nat → Prop} {L:Lk} {q o:Value} (h:At w B Af Ac g L q o) (hok:L.Ok) (hB:B ≤ w.heap.size) (hp:L.phase = 1) (hi:¬ L.idle + 1 < 3) {own:Nat → Prop} (ho:∀ k,holds Af Ac g k → own k) :
  Calls Try.prog 33 #[.pointer (some ⟨g,0,none⟩)] w fun e w' => e = .returned (.tuple #[]) ∧ Bg w B own g (emit_ (Dk L 0) (CY (Dk L 0))) w':=by
 have hl1:w.cell? ⟨g,1,none⟩ = some (.int .i64 L.phase):=(AA h.blk 1).trans rfl
 have He:w.cell? ⟨g,7,none⟩ = some (.int .i64 L.sent):=(AA h.blk 7).trans rfl
 have JD:w.cell? ⟨g,10,none⟩ = some (.int .i64 L.idle):=(AA h.blk 10).trans rfl
 have hs:=hok.sent
 have hid:=hok.idle
 have H:=Lib.hid h
 have OK:=Lib.hid hok
 have HOW:=Lib.hid ho
 clear h hok ho
 have hd:(L.phase == 0) = false:=by simp [hp]
 have hd2:(L.phase == 2) = false:=by simp [hp]
 have hd5:(L.phase == 1) = true:=by simp [hp]
 have hd4:decide (L.idle + 1 < 3) = false:=by simp; omega
 clear hp
 go_enter Try.func33,Try.ntmps33
 go_wp2_with (first | ((with_reducible refine gate_ (.store 3 (.tmp 33) (.tmp 31)) rfl ?_); (refine AY (fun wz => At wz B Af Ac g (Dk L (L.idle + 1)) q o ∧ Go.Proofs.Ytnkkgofpifhoeaa.Steps.At g w wz) rfl rfl ⟨_,(by have hz1:World.cell? _ ⟨g,10,none⟩ = some _:=(AA H.out.blk 10).trans rfl; have hz2:=AB H.out.blk 10; first | (go_simp; done) | (go_simp; rfl)),H.out.F6 10 _ rfl rfl rfl,Steps.At.set (Steps.At.refl _ _) _ _⟩ (fun Bl hF => ?_)); (have K1:=Lib.hid hF); (clear hF); (clear hl1 He JD); (have hl1:Bl.cell? ⟨g,1,none⟩ = some (.int .i64 L.phase):=(AA K1.out.1.blk 1).trans rfl); (have JD:Bl.cell? ⟨g,10,none⟩ = some (.int .i64 (L.idle + 1)):=(AA K1.out.1.blk 10).trans rfl)) | ((with_reducible refine gate_ (.store 3 (.tmp 41) (.const (.int .i64 0))) rfl ?_); (refine AY (fun wz => At wz B Af Ac g (Dk L (0)) q o ∧ Go.Proofs.Ytnkkgofpifhoeaa.Steps.At g w wz) rfl rfl ⟨_,(by have hz1:World.cell? _ ⟨g,10,none⟩ = some _:=(AA K1.out.1.blk 10).trans rfl; have hz2:=AB K1.out.1.blk 10; first | (go_simp; done) | (go_simp; rfl)),K1.out.1.F6 10 _ rfl rfl rfl,Steps.At.set K1.out.2 _ _⟩ (fun BG hF => ?_)); (have K2:=Lib.hid hF); (clear hF); (clear hl1 JD); (have hl1:BG.cell? ⟨g,1,none⟩ = some (.int .i64 L.phase):=(AA K2.out.1.blk 1).trans rfl); (have He:BG.cell? ⟨g,7,none⟩ = some (.int .i64 L.sent):=(AA K2.out.1.blk 7).trans rfl)) | (go_at_call 73; (refine (F7 K2.out.1 (MF OK.out (by decide)) (by have:=K2.out.2.size; omega)).mono ?_); (rintro e w9 ⟨rfl,hE⟩); (have HE:=Lib.hid hE); (clear hE)))
 all_goals ((first | go_end0 | (refine bodyPost_ret (results_none rfl _ _ _) rfl ?_)); exact ⟨rfl,Bg.trans (⟨⟨_,_,_,_,K2.out.1,fun k hk => .inl (HOW.out k hk)⟩,(EE K2.out.2).mono (fun k hk => HOW.out k (.inr (.inr hk))),K2.out.2.below (Below.refl _ _) H.out.low⟩:Bg w B own g (Dk L 0) BG) ((BL.turns (fun k hk => .inl (HOW.out k hk)) HE.out))⟩)
theorem PM {w:World} {B g:Nat} {Af Ac:Nat → Prop} {L:Lk} {q o:Value} (h:At w B Af Ac g L q o) (hok:L.Ok) (hB:B ≤ w.heap.size) (hp:L.phase = 2) (h0:¬ L.sent = 0) (hi:¬ L.idle + 1 < 3) {own:Nat → Prop} (ho:∀ k,holds Af Ac g k → own k) :
  Calls Try.prog 33 #[.pointer (some ⟨g,0,none⟩)] w fun e w' => e = .returned (.tuple #[]) ∧ Bg w B own g (sends L.sent.toNat (Dk L 0)) w':=by
 have hl1:w.cell? ⟨g,1,none⟩ = some (.int .i64 L.phase):=(AA h.blk 1).trans rfl
 have He:w.cell? ⟨g,7,none⟩ = some (.int .i64 L.sent):=(AA h.blk 7).trans rfl
 have JD:w.cell? ⟨g,10,none⟩ = some (.int .i64 L.idle):=(AA h.blk 10).trans rfl
 have hs:=hok.sent
 have hid:=hok.idle
 have H:=Lib.hid h
 have OK:=Lib.hid hok
 have HOW:=Lib.hid ho
 clear h hok ho
 have hd:(L.phase == 0) = false:=by simp [hp]
 have hd2:(L.phase == 2) = true:=by simp [hp]
 have hd3:(L.sent == 0) = false:=by simp [h0]
 have hd5:(L.phase == 1) = false:=by simp [hp]
 have hd4:decide (L.idle + 1 < 3) = false:=by simp; omega
 clear hp h0
 go_enter Try.func33,Try.ntmps33
 go_wp2_with (first | ((with_reducible refine gate_ (.store 3 (.tmp 33) (.tmp 31)) rfl ?_); (refine AY (fun wz => At wz B Af Ac g (Dk L (L.idle + 1)) q o ∧ Go.Proofs.Ytnkkgofpifhoeaa.Steps.At g w wz) rfl rfl ⟨_,(by have hz1:World.cell? _ ⟨g,10,none⟩ = some _:=(AA H.out.blk 10).trans rfl; have hz2:=AB H.out.blk 10; first | (go_simp; done) | (go_simp; rfl)),H.out.F6 10 _ rfl rfl rfl,Steps.At.set (Steps.At.refl _ _) _ _⟩ (fun Bl hF => ?_)); (have K1:=Lib.hid hF); (clear hF); (clear hl1 He JD); (have hl1:Bl.cell? ⟨g,1,none⟩ = some (.int .i64 L.phase):=(AA K1.out.1.blk 1).trans rfl); (have JD:Bl.cell? ⟨g,10,none⟩ = some (.int .i64 (L.idle + 1)):=(AA K1.out.1.blk 10).trans rfl)) | ((with_reducible refine gate_ (.store 3 (.tmp 41) (.const (.int .i64 0))) rfl ?_); (refine AY (fun wz => At wz B Af Ac g (Dk L (0)) q o ∧ Go.Proofs.Ytnkkgofpifhoeaa.Steps.At g w wz) rfl rfl ⟨_,(by have hz1:World.cell? _ ⟨g,10,none⟩ = some _:=(AA K1.out.1.blk 10).trans rfl; have hz2:=AB K1.out.1.blk 10; first | (go_simp; done) | (go_simp; rfl)),K1.out.1.F6 10 _ rfl rfl rfl,Steps.At.set K1.out.2 _ _⟩ (fun BG hF => ?_)); (have K2:=Lib.hid hF); (clear hF); (clear hl1 JD); (have hl1:BG.cell? ⟨g,1,none⟩ = some (.int .i64 L.phase):=(AA K2.out.1.blk 1).trans rfl); (have He:BG.cell? ⟨g,7,none⟩ = some (.int .i64 L.sent):=(AA K2.out.1.blk 7).trans rfl)))
 go_loopg [53] L.sent.toNat (fun n v wr => ∃ i:Nat,n = L.sent.toNat - i ∧ i ≤ L.sent.toNat ∧ v = .int .i64 (i:Int) ∧ BL BG B Af Ac g (sends i (Dk L 0)) q wr)
 case atStart => exact ⟨0,rfl,Nat.zero_le _,rfl,BL.same K2.out.1⟩
 case round =>
  obtain ⟨i,hn,hle,rfl,hE⟩:=hrel
  have HE:=Lib.hid hE
  have HN:=Lib.hid hn
  have yf:=Lib.hid hle
  clear hE hn hle
  by_cases hlt:(i:Int) < L.sent
  ·have hd8:decide ((i:Int) < L.sent) = true:=by simp [hlt]
   have qB:=Lib.hid hlt
   obtain ⟨o',h1,h2,h3⟩:=HE.out
   have H1:=Lib.hid h1
   have H2:=Lib.hid h2
   have H3:=Lib.hid h3
   clear h1 h2 h3
   have yg:=Lib.hid (UW (MF OK.out (d:=0) (by decide)) i)
   have HI1:=Lib.hid (show (i:Int) < ((sends i (Dk L 0)).queue.length:Int) by rw [NR]; show (i:Int) < (L.queue.length:Int); omega)
   go_wp2_with (go_at_call 75; (refine (L8 (i:=(i:Int)) H1.out yg.out (Nat.le_trans hB (Nat.le_trans (Nat.le_of_eq K2.out.2.size.symm) H2.out.1)) (Int.natCast_nonneg i) HI1.out).mono ?_); (rintro e w9 ⟨rfl,hE⟩); (have HE2:=Lib.hid hE); (clear hE))
   go_roundg (L.sent.toNat - (i + 1))
   case measure => have:=HN.out; have:=qB.out; omega
   case rel =>
    refine ⟨i + 1,rfl,by have:=qB.out; omega,by simp,?_⟩
    have e:=BL.chain (fun k hk => (K2.out.1.old k (.inl hk)).1) (AU K2.out.1.blk) K2.out.1.low H2.out H3.out (Steps.At.refl _ _) HE2.out
    rw [PE] at e
    exact e
  ·have hd8:decide ((i:Int) < L.sent) = false:=by simp; omega
   have HI:=Lib.hid (show i = L.sent.toNat by have:=yf.out; omega)
   go_wp2_with fail
   all_goals ((first | go_end0 | (refine bodyPost_ret (results_none rfl _ _ _) rfl ?_)); exact ⟨rfl,Bg.trans (⟨⟨_,_,_,_,K2.out.1,fun k hk => .inl (HOW.out k hk)⟩,(EE K2.out.2).mono (fun k hk => HOW.out k (.inr (.inr hk))),K2.out.2.below (Below.refl _ _) H.out.low⟩:Bg w B own g (Dk L 0) BG) ((BL.turns (fun k hk => .inl (HOW.out k hk)) (HI.out ▸ HE.out)))⟩)
theorem WG {w:World} {B g:Nat} {own:Nat → Prop} {L:Lk} (h:End w B own g L) (hok:L.Ok) (hB:B ≤ w.heap.size) :
  Calls Try.prog 33 #[.pointer (some ⟨g,0,none⟩)] w fun e w' => e = .returned (.tuple #[]) ∧ Bg w B own g (IG L) w':=by
 obtain ⟨Af,Ac,q,o,h,ho⟩:=h
 have hp:=hok.phase
 unfold IG
 by_cases h0:L.phase = 0
 ·rw [if_pos h0]; exact RQ h hok hB h0 ho
 rw [if_neg h0]
 by_cases h2:L.phase = 2
 ·by_cases hs:L.sent = 0
  ·rw [if_pos ⟨h2,hs⟩]; exact RS h hok hB h2 hs ho
  ·rw [if_neg (fun x => hs x.2)]
   by_cases hi:L.idle + 1 < 3
   ·rw [if_pos hi]; exact PK h hok hB h2 hs hi ho
   ·rw [if_neg hi,if_neg (by omega)]; exact PM h hok hB h2 hs hi ho
 ·rw [if_neg (fun x => h2 x.1)]
  have h1:L.phase = 1:=by omega
  by_cases hi:L.idle + 1 < 3
  ·rw [if_pos hi]; exact PI h hok hB h1 hi ho
  ·rw [if_neg hi,if_pos h1]; exact PL h hok hB h1 hi ho
end Go.Proofs.Ytnkkgofpifhoeaa.Lk
end
section
namespace Go.Proofs.Ytnkkgofpifhoeaa.Lk
open Go.RowKit Go.Proofs.Ytnkkgofpifhoeaa.Base Go.Proofs.Ytnkkgofpifhoeaa.Pk Go.Proofs.YtnkkgofpifhoeaaW.PrintWords Go.Proofs.YtnkkgofpifhoeaaW.PrintLast
structure BJ.Good (p:BJ):Prop where
 YM:p.Jw
 check:Ah p.kind p.mine p.AL p.yours p.seq p.AX p.stamp p.echo p.zr p.zi p.body.length = 0
 len:p.body.length ≤ 1000
def more (own:Nat → Prop) (w w':World):Nat → Prop:=fun k => own k ∨ w.heap.size ≤ k ∧ k < w'.heap.size
section
variable {w:World} {B g:Nat} {own:Nat → Prop} {L:Lk} (h:End w B own g L) (hB:B ≤ w.heap.size)
include h
theorem phase_end:Calls Try.prog 29 #[.pointer (some ⟨g,0,none⟩)] w fun e w' => e = .returned (.int .i64 L.phase) ∧ w = w':=by
 obtain ⟨_,_,_,_,h,_⟩:=h
 exact Tt h
theorem RU:Calls Try.prog 31 #[.pointer (some ⟨g,0,none⟩)] w fun e w' => e = .returned (.int .i64 L.queue.length) ∧ w = w':=by
 obtain ⟨_,_,_,_,h,_⟩:=h
 exact Tu h
include hB
theorem Jy (hok:L.Ok):Calls Try.prog 27 #[.pointer (some ⟨g,0,none⟩)] w fun e w' => e = .returned (.int .i64 (JJ L)) ∧ Bg w B own g (ET L) w':=by
 obtain ⟨_,_,_,_,h,ho⟩:=h
 exact (V5 h hok hB).mono fun e w' hq => ⟨hq.1,Il.turns ho hq.2⟩
omit hB in
theorem NS:Calls Try.prog 78 #[.pointer (some ⟨g,0,none⟩)] w fun e w' => e = .returned (.bool (decide (L.phase = 2))) ∧ Bg w B own g (FV L) w':=by
 obtain ⟨_,_,_,_,h,ho⟩:=h
 refine (QM h).mono fun e w' hq => ⟨hq.1,⟨⟨_,_,_,_,hq.2.1,fun k hk => .inl (ho k ?_)⟩,(EE hq.2.2).mono (fun k hk => ho k (.inr (.inr hk))),hq.2.2.below (Below.refl _ _) h.low⟩⟩
 rcases hk with hk | hk | hk
 ·exact hk.elim
 ·exact .inr (.inl hk)
 ·exact .inr (.inr hk)
theorem UX (hok:L.Ok) (body:List Int) (Ab:Option Addr) (cb:Nat) (hC:(Kd.int .u8).C w Ab body.length body) :
  Calls Try.prog 30 #[.pointer (some ⟨g,0,none⟩),.slice Ab body.length cb] w fun e w' => e = .returned (.int .i64 (Eg L body.length)) ∧ Bg w B own g (F8 L body) w':=by
 obtain ⟨_,_,_,_,h,ho⟩:=h
 exact L9 h hok hB body Ab cb hC ho
omit hB in
theorem WH:Calls Try.prog 32 #[.pointer (some ⟨g,0,none⟩)] w fun e w' => ∃ o ZJ,e = .returned o ∧ Bg w B own g { L with out:=[] } w' ∧ pkt.R 27 w' B ZJ o L.out ∧ (∀ k,ZJ k → own k) ∧ w'.heap.size = w.heap.size:=by
 obtain ⟨Af,Ac,_,o,h,ho⟩:=h
 refine (Ot h).mono fun e w' hq => ⟨o,Ac,hq.1,⟨⟨_,_,_,_,hq.2.1,fun k hk => .inl (ho k ?_)⟩,(EE hq.2.2.2).mono (fun k hk => ho k (.inr (.inr hk))),hq.2.2.2.below (Below.refl _ _) h.low⟩,hq.2.2.1,fun k hk => ho k (.inr (.inl hk)),hq.2.2.2.size⟩
 rcases hk with hk | hk | hk
 ·exact .inl hk
 ·exact hk.elim
 ·exact .inr (.inr hk)
theorem UY (hok:L.Ok) (AL:Int) (p:BJ) (hb:0 < AL ∧ AL < 4294967296) (hp:p.Good) {DI:Nat → Prop} {cs:List Value} (hM:pkt.M w B DI p cs) (hkp:∀ k,DI k → ¬ own k) :
  Calls Try.prog 34 #[.pointer (some ⟨g,0,none⟩),.int .u32 AL,.agg cs.toArray] w (QT w B own g (BM L AL p)):=by
 obtain ⟨_,_,_,_,h,ho⟩:=h
 obtain ⟨b,rfl,hR⟩:=F5.1 hM
 obtain ⟨Ab,cb,rfl,hlen⟩:=Kd.Am hR
 exact WE h hok ho hB AL p Ab cb (by omega) (by omega) hp.YM hp.check hp.len hR hkp
end
theorem Ei.turns {w:World} {B g:Nat} {own:Nat → Prop} {x:Lk × Tk} {e:Ending} {w':World} (h:QT w B own g x e w'):Bg w B own g x.1 w':=by
 obtain ⟨vb,okb,he,hR,hk,hE,hK,hb⟩:=h
 exact ⟨hE.mono (fun k hk => hk.elim .inl (fun hn => .inr ⟨hn.1,hn.2.1⟩)),hK,hb⟩
end Go.Proofs.Ytnkkgofpifhoeaa.Lk
end
section
namespace Go.Proofs.Ytnkkgofpifhoeaa.Pe
open Go.Proofs.Ytnkkgofpifhoeaa.Pk Go.RowKit Go.Proofs.Ytnkkgofpifhoeaa.Base Go.Proofs.Ytnkkgofpifhoeaa.Num Go.Proofs.Ytnkkgofpifhoeaa.OG Go.Proofs.YtnkkgofpifhoeaaW.PrintWords
abbrev p4 (n:Int):List Int:=Pk.CO (IntKind.u64.wrap n)
def Ej (p:Lk.BJ):List Int :=
 if p.kind = 1 then (((([1] ++ p4 p.mine) ++ p4 p.AL) ++ p4 p.yours) ++ [IntKind.u8.wrap p.seq])
 else if p.kind = 2 then (((((([2] ++ p4 p.mine) ++ p4 p.AL) ++ p4 p.yours) ++ p4 p.seq) ++ p4 p.AX) ++ p.body)
 else if p.kind = 3 then ((((([3] ++ p4 p.mine) ++ p4 p.AL) ++ p4 p.yours) ++ p4 p.AX) ++ p.body)
 else ((((((((([4] ++ p4 p.mine) ++ p4 p.AL) ++ p4 p.yours) ++ p4 p.AX) ++ p4 p.stamp) ++ p4 p.echo) ++ Pk.Di (p.zr:Int)) ++ Pk.Di (p.zi:Int)) ++ p.body)
structure JX (p:Lk.BJ):Prop where
 good:p.Good
 bytes:Pk.Bv p.body
 z:p.kind ≠ 4 → p.zr = 0 ∧ p.zi = 0
 stamp:0 ≤ p.stamp ∧ p.stamp < 4294967296
 echo:0 ≤ p.echo ∧ p.echo < 4294967296
theorem Zz (n:Int) (h:0 ≤ n ∧ n < 4294967296):IntKind.u32.wrap (Pk.Ii 0 (p4 n)) = n:=by
 unfold p4
 rw [Pk.wraps_u64 n h.1 (by omega),Pk.QJ,GR]
 show (((((0 * 256) % 18446744073709551616 + n / 16777216 % 256) * 256 % 18446744073709551616 + n / 65536 % 256) * 256 % 18446744073709551616 + n / 256 % 256) * 256 % 18446744073709551616 + n % 256) % 4294967296 = n
 omega
theorem aA (n:Nat) (h:n < 18446744073709551616):(Pk.Ii 0 (Pk.Di (n:Int))).toNat = n:=by
 rw [Pk.QK]
 have e0:(0 * 256) % 18446744073709551616 + (n:Int) / 72057594037927936 % 256 = (n:Int) / 72057594037927936:=by omega
 have e1:((n:Int) / 72057594037927936) * 256 % 18446744073709551616 + (n:Int) / 281474976710656 % 256 = (n:Int) / 281474976710656:=by omega
 have e2:((n:Int) / 281474976710656) * 256 % 18446744073709551616 + (n:Int) / 1099511627776 % 256 = (n:Int) / 1099511627776:=by omega
 have e3:((n:Int) / 1099511627776) * 256 % 18446744073709551616 + (n:Int) / 4294967296 % 256 = (n:Int) / 4294967296:=by omega
 have e4:((n:Int) / 4294967296) * 256 % 18446744073709551616 + (n:Int) / 16777216 % 256 = (n:Int) / 16777216:=by omega
 have e5:((n:Int) / 16777216) * 256 % 18446744073709551616 + (n:Int) / 65536 % 256 = (n:Int) / 65536:=by omega
 have e6:((n:Int) / 65536) * 256 % 18446744073709551616 + (n:Int) / 256 % 256 = (n:Int) / 256:=by omega
 have e7:((n:Int) / 256) * 256 % 18446744073709551616 + (n:Int) % 256 = (n:Int):=by omega
 show (((((((((0 * 256) % 18446744073709551616 + (n:Int) / 72057594037927936 % 256) * 256 % 18446744073709551616 + (n:Int) / 281474976710656 % 256) * 256 % 18446744073709551616 + (n:Int) / 1099511627776 % 256) * 256 % 18446744073709551616 + (n:Int) / 4294967296 % 256) * 256 % 18446744073709551616 + (n:Int) / 16777216 % 256) * 256 % 18446744073709551616 + (n:Int) / 65536 % 256) * 256 % 18446744073709551616 + (n:Int) / 256 % 256) * 256 % 18446744073709551616 + (n:Int) % 256).toNat = n
 rw [e0,e1,e2,e3,e4,e5,e6,e7]
 exact Int.toNat_natCast n
theorem Bq {l:List Int} {a:Nat} {n:Int} (h:0 ≤ n ∧ n < 4294967296) (hl:(l.drop a).take 4 = p4 n):Pk.at4 l a = n:=by
 unfold Pk.at4
 rw [hl]
 exact Zz n h
theorem NT {l:List Int} {a n:Nat} (h:n < 18446744073709551616) (hl:(l.drop a).take 8 = Pk.Di (n:Int)):Pk.at8 l a = n:=by
 unfold Pk.at8
 rw [hl]
 exact aA n h
def YN (p:Lk.BJ):Pk.BJ:=⟨p.kind,p.mine,p.AL,p.yours,p.seq,p.AX,p.stamp,p.echo,p.zr,p.zi,p.body⟩
theorem YO {mine AL yours seq AX stamp echo:Int} {zr zi n:Nat} (h:Ah 1 mine AL yours seq AX stamp echo zr zi n = 0):seq < 2 ∧ n = 0 ∧ AX = 0 ∧ stamp = 0 ∧ echo = 0:=by
 unfold Ah at h
 rw [if_pos rfl] at h
 split at h
 ·rename_i hg
  unfold good1 at hg
  rw [Bool.and_eq_true,decide_eq_true_eq] at hg
  exact ⟨hg.1.2.1,hg.1.2.2.2.1,hg.1.2.2.2.2.1,hg.1.2.2.2.2.2.1,hg.1.2.2.2.2.2.2⟩
 ·cases h
theorem YP {mine AL yours seq AX stamp echo:Int} {zr zi n:Nat} (h:Ah 2 mine AL yours seq AX stamp echo zr zi n = 0):n ≤ 1000 ∧ 0 < n ∧ stamp = 0 ∧ echo = 0:=by
 unfold Ah at h
 rw [if_neg (by decide),if_pos rfl] at h
 split at h
 ·cases h
 ·split at h
  ·rename_i hn hg
   unfold JF at hg
   rw [Bool.and_eq_true,decide_eq_true_eq] at hg
   exact ⟨by omega,hg.1.2.2.2.1,hg.1.2.2.2.2.1,hg.1.2.2.2.2.2⟩
  ·cases h
theorem YQ {mine AL yours seq AX stamp echo:Int} {zr zi n:Nat} (h:Ah 3 mine AL yours seq AX stamp echo zr zi n = 0):n = 0 ∧ seq = 0 ∧ stamp = 0 ∧ echo = 0:=by
 unfold Ah at h
 rw [if_neg (by decide),if_neg (by decide),if_pos rfl] at h
 split at h
 ·rename_i hg
  unfold JG at hg
  rw [Bool.and_eq_true,decide_eq_true_eq] at hg
  exact ⟨hg.1.2.2.2.1,hg.1.2.2.2.2.1,hg.1.2.2.2.2.2.1,hg.1.2.2.2.2.2.2⟩
 ·cases h
theorem YR {mine AL yours seq AX stamp echo:Int} {zr zi n:Nat} (h:Ah 4 mine AL yours seq AX stamp echo zr zi n = 0):n = 0 ∧ seq = 0:=by
 unfold Ah at h
 rw [if_neg (by decide),if_neg (by decide),if_neg (by decide),if_pos rfl] at h
 split at h
 ·rename_i hg
  unfold IZ at hg
  rw [Bool.and_eq_true,decide_eq_true_eq] at hg
  exact ⟨hg.2.2.2.2.1,hg.2.2.2.2.2⟩
 ·cases h
theorem QU {p:Lk.BJ} (h:p.Good):p.kind = 1 ∨ p.kind = 2 ∨ p.kind = 3 ∨ p.kind = 4:=by
 have hc:=h.check
 unfold Ah at hc
 split at hc
 ·exact .inl (by assumption)
 split at hc
 ·exact .inr (.inl (by assumption))
 split at hc
 ·exact .inr (.inr (.inl (by assumption)))
 split at hc
 ·exact .inr (.inr (.inr (by assumption)))
 ·cases hc
theorem MG {l:List Int} {q:Pk.BJ} (k:Int) (hk:rd l 0 = k) (h1:1 ≤ k ∧ k ≤ 4) (hl:Pk.least k ≤ l.length ∧ l.length ≤ Pk.most k) (h0:0 < l.length) (hq:Pk.Ef l = q) (hc:q.code = 0):Pk.Dh l = 0 ∧ Pk.Jr l = q:=by
 have hd:Pk.Dh l = 0:=by
  unfold Pk.Dh
  rw [if_neg (by omega),hk,if_neg (by omega),if_neg (by omega),if_neg (by omega),hq,hc]
 refine ⟨hd,?_⟩
 unfold Pk.Jr
 rw [if_pos hd,hq]
theorem UZ {p:Lk.BJ} (h:JX p):Pk.Dh (Ej p) = 0 ∧ Pk.Jr (Ej p) = YN p:=by
 obtain ⟨k,m,bt,y,sq,ak,st,ec,zr,zi,bd⟩:=p
 have hr:=h.good.YM
 have hm:0 ≤ m ∧ m < 4294967296:=hr.mine
 have hb:0 ≤ bt ∧ bt < 4294967296:=hr.AL
 have hy:0 ≤ y ∧ y < 4294967296:=hr.yours
 have hs:0 ≤ sq ∧ sq < 4294967296:=hr.seq
 have ha:0 ≤ ak ∧ ak < 4294967296:=hr.AX
 have hst:0 ≤ st ∧ st < 4294967296:=h.stamp
 have iQ:0 ≤ ec ∧ ec < 4294967296:=h.echo
 have hc:=h.good.check
 have hk:=QU h.good
 have hz:k ≠ 4 → zr = 0 ∧ zi = 0:=h.z
 have OH:zr < 18446744073709551616:=hr.zr
 have hzi:zi < 18446744073709551616:=hr.zi
 have hcode:(YN ⟨k,m,bt,y,sq,ak,st,ec,zr,zi,bd⟩).code = 0:=hc
 simp only at hc hk
 rcases hk with rfl | rfl | rfl | rfl
 ·obtain ⟨h1,h2,rfl,rfl,rfl⟩:=YO hc
  obtain rfl:=List.eq_nil_of_length_eq_zero h2
  obtain ⟨rfl,rfl⟩:=hz (by decide)
  refine MG 1 rfl (by decide) ⟨(show (14:Nat) ≤ 14 from by decide),(show (14:Nat) ≤ 14 from by decide)⟩ (show (0:Nat) < 14 from by decide) ?_ hcode
  unfold Pk.Ef
  rw [if_pos (show rd (Ej _) 0 = 1 from rfl)]
  unfold Pk.TT YN
  rw [Bq hm (show _ = p4 m from rfl),Bq hb (show _ = p4 bt from rfl),Bq hy (show _ = p4 y from rfl)]
  have e:IntKind.u32.wrap (rd (Ej ⟨1,m,bt,y,sq,0,0,0,0,0,[]⟩) 13) = sq:=by
   show IntKind.u32.wrap (IntKind.u8.wrap sq) = sq
   rw [GR,IntKind.wrap_u8]
   omega
  rw [e]
 ·obtain ⟨h1,h2,rfl,rfl⟩:=YP hc
  obtain ⟨rfl,rfl⟩:=hz (by decide)
  have hlen:(Ej ⟨2,m,bt,y,sq,ak,0,0,0,0,bd⟩).length = bd.length + 21:=rfl
  refine MG 2 rfl (by decide) ⟨?_,?_⟩ (by rw [hlen]; omega) ?_ hcode
  ·rw [hlen]; show 22 ≤ _; omega
  ·rw [hlen]; show _ ≤ 1021; omega
  unfold Pk.Ef
  rw [show rd (Ej _) 0 = (2:Int) from rfl,if_neg (by decide),if_pos rfl]
  unfold Pk.TU YN
  rw [Bq hm (show _ = p4 m from rfl),Bq hb (show _ = p4 bt from rfl),Bq hy (show _ = p4 y from rfl),Bq hs (show _ = p4 sq from rfl),Bq ha (show _ = p4 ak from rfl)]
  rfl
 ·obtain ⟨h1,rfl,rfl,rfl⟩:=YQ hc
  obtain rfl:=List.eq_nil_of_length_eq_zero h1
  obtain ⟨rfl,rfl⟩:=hz (by decide)
  refine MG 3 rfl (by decide) ⟨(show (17:Nat) ≤ 17 from by decide),(show (17:Nat) ≤ 17 from by decide)⟩ (show (0:Nat) < 17 from by decide) ?_ hcode
  unfold Pk.Ef
  rw [show rd (Ej _) 0 = (3:Int) from rfl,if_neg (by decide),if_neg (by decide),if_pos rfl]
  unfold Pk.TY YN
  rw [Bq hm (show _ = p4 m from rfl),Bq hb (show _ = p4 bt from rfl),Bq hy (show _ = p4 y from rfl),Bq ha (show _ = p4 ak from rfl)]
 ·obtain ⟨h1,rfl⟩:=YR hc
  obtain rfl:=List.eq_nil_of_length_eq_zero h1
  refine MG 4 rfl (by decide) ⟨(show (41:Nat) ≤ 41 from by decide),(show (41:Nat) ≤ 41 from by decide)⟩ (show (0:Nat) < 41 from by decide) ?_ hcode
  unfold Pk.Ef
  rw [show rd (Ej _) 0 = (4:Int) from rfl,if_neg (by decide),if_neg (by decide),if_neg (by decide)]
  unfold Pk.Tc YN
  rw [Bq hm (show _ = p4 m from rfl),Bq hb (show _ = p4 bt from rfl),Bq hy (show _ = p4 y from rfl),Bq ha (show _ = p4 ak from rfl),Bq hst (show _ = p4 st from rfl),Bq iQ (show _ = p4 ec from rfl),NT OH (show _ = Pk.Di (zr:Int) from rfl),NT hzi (show _ = Pk.Di (zi:Int) from rfl)]
end Go.Proofs.Ytnkkgofpifhoeaa.Pe
end
section
namespace Go.Proofs.Ytnkkgofpifhoeaa.OG
open Ieee
theorem Ua (n k:Nat):n <<< k = n * 2 ^ k:=Nat.shiftLeft_eq n k
theorem Ub (neg:Bool) (n:Nat):Toward.even.cut neg n 0 = n:=by
 unfold Toward.cut
 simp
 omega
theorem RV (neg:Bool) (n k:Nat) (hn:0 < n):Toward.even.cut neg (n * 2 ^ k) k = n:=by
 unfold Toward.cut
 have hp:0 < 2 ^ k:=Nat.two_pow_pos k
 have yh:k ≤ (n * 2 ^ k).log2:=by
  rw [Nat.le_log2 (by exact Nat.ne_of_gt (Nat.mul_pos hn hp))]
  exact Nat.le_mul_of_pos_left _ hn
 have hmin:min k ((n * 2 ^ k).log2 + 2) = k:=by omega
 simp only [hmin,Ua,Nat.one_mul]
 have h1:n * 2 ^ k / 2 ^ k = n:=Nat.mul_div_cancel _ hp
 have h2:n * 2 ^ k % 2 ^ k = 0:=Nat.mul_mod_left _ _
 rw [h1,h2]
 have h3:¬ 2 ^ k < 2 * 0:=by omega
 have h4:(2 ^ k == 2 * 0) = false:=by
  rw [beq_eq_false_iff_ne]
  omega
 simp [h4]
theorem RX (n k:Nat) (hn:0 < n):(n * 2 ^ k).log2 = n.log2 + k:=by
 induction k with
 | zero => simp
 | succ k ih =>
  have:n * 2 ^ (k + 1) = 2 * (n * 2 ^ k):=by rw [Nat.pow_succ]; rw [Nat.mul_comm 2,Nat.mul_assoc]
  rw [this,Nat.log2_two_mul (by exact Nat.ne_of_gt (Nat.mul_pos hn (Nat.two_pow_pos k))),ih]
  omega
theorem Uc:double.fractionBits = 52:=rfl
theorem Ku:double.leastPlace = -1074:=by decide
theorem QV:double.binade = 4503599627370496:=by decide
theorem QW:double.infRung = 9218868437227405312:=by decide
theorem Jz:double.signWeight = 9223372036854775808:=by decide
def Ff (n:Nat):Nat:=(n.log2 + 1022) * 4503599627370496 + n * 2 ^ (52 - n.log2)
theorem J3 (n:Nat) (hn:0 < n) (h:n < 9007199254740992):n.log2 < 53:=(Nat.log2_lt (by omega)).2 h
theorem IU (n:Nat) (hn:0 < n) (h:n < 9007199254740992):4503599627370496 ≤ n * 2 ^ (52 - n.log2) ∧ n * 2 ^ (52 - n.log2) < 9007199254740992:=by
 have hl:=J3 n hn h
 have h1:2 ^ n.log2 ≤ n:=Nat.log2_self_le (by omega)
 have h2:n < 2 ^ (n.log2 + 1):=Nat.lt_log2_self
 have e1:2 ^ n.log2 * 2 ^ (52 - n.log2) = 4503599627370496:=by
  rw [← Nat.pow_add,show n.log2 + (52 - n.log2) = 52 by omega]
 have e2:2 ^ (n.log2 + 1) * 2 ^ (52 - n.log2) = 9007199254740992:=by
  rw [← Nat.pow_add,show n.log2 + 1 + (52 - n.log2) = 53 by omega]
 have hp:0 < 2 ^ (52 - n.log2):=Nat.two_pow_pos _
 constructor
 ·rw [← e1]
  exact Nat.mul_le_mul_right _ h1
 ·rw [← e2]
  exact Nat.mul_lt_mul_of_pos_right h2 hp
theorem NU (neg:Bool) (n k:Nat) (hn:0 < n) (h:n < 9007199254740992):double.nearest neg (n * 2 ^ k) (-(k:Int)) = double.word neg (Ff n):=by
 have hp:0 < 2 ^ k:=Nat.two_pow_pos k
 have hne:n * 2 ^ k ≠ 0:=Nat.ne_of_gt (Nat.mul_pos hn hp)
 have hl:=J3 n hn h
 have hkr:=IU n hn h
 unfold Format.nearest
 rw [if_neg hne,RX n k hn,Uc,Ku,QV,QW]
 simp only
 have hlast:max (-(k:Int) + ((n.log2 + k:Nat):Int) - ((52:Nat):Int)) (-1074) = (n.log2:Int) - 52:=by omega
 rw [hlast]
 have hkept:Toward.even.cut neg ((n * 2 ^ k) <<< (-(k:Int) - ((n.log2:Int) - 52)).toNat) ((n.log2:Int) - 52 - -(k:Int)).toNat = n * 2 ^ (52 - n.log2):=by
  by_cases hc:k ≤ 52 - n.log2
  ·have e1:(-(k:Int) - ((n.log2:Int) - 52)).toNat = 52 - n.log2 - k:=by omega
   have e2:((n.log2:Int) - 52 - -(k:Int)).toNat = 0:=by omega
   rw [e1,e2,Ub,Ua,Nat.mul_assoc,← Nat.pow_add,show k + (52 - n.log2 - k) = 52 - n.log2 by omega]
  ·have e1:(-(k:Int) - ((n.log2:Int) - 52)).toNat = 0:=by omega
   have e2:((n.log2:Int) - 52 - -(k:Int)).toNat = k - (52 - n.log2):=by omega
   rw [e1,e2,Nat.shiftLeft_zero]
   have e3:n * 2 ^ k = (n * 2 ^ (52 - n.log2)) * 2 ^ (k - (52 - n.log2)):=by
    rw [Nat.mul_assoc,← Nat.pow_add,show 52 - n.log2 + (k - (52 - n.log2)) = k by omega]
   rw [e3]
   exact RV neg _ _ (Nat.mul_pos hn (Nat.two_pow_pos _))
 rw [hkept]
 have e4:((n.log2:Int) - 52 - -1074).toNat = n.log2 + 1022:=by omega
 rw [e4]
 congr 1
 unfold Ff
 omega
def F (n:Int):Nat:=double.nearest (decide (n < 0)) n.natAbs 0
theorem YS:F 0 = 0:=by decide
theorem aC (n:Int) (hn:n ≠ 0) (h:n.natAbs < 9007199254740992):F n = double.word (decide (n < 0)) (Ff n.natAbs):=by
 have:=NU (decide (n < 0)) n.natAbs 0 (by omega) h
 simpa [F] using this
theorem QX (n:Nat) (hn:0 < n) (h:n < 9007199254740992):4503599627370496 ≤ Ff n ∧ Ff n < 9218868437227405312:=by
 have hl:=J3 n hn h
 have hk:=IU n hn h
 unfold Ff
 omega
theorem RY (neg:Bool) (n:Nat) (hn:0 < n) (h:n < 9007199254740992):double.read (double.word neg (Ff n)) = .number neg (n * 2 ^ (52 - n.log2)) ((n.log2:Int) - 52):=by
 have hl:=J3 n hn h
 have hk:=IU n hn h
 have hr:=QX n hn h
 have qC:Ff n = (n.log2 + 1022) * 4503599627370496 + n * 2 ^ (52 - n.log2):=rfl
 generalize n * 2 ^ (52 - n.log2) = m at hk qC ⊢
 generalize Ff n = r at hr qC ⊢
 have hs:double.word neg r / 9223372036854775808 % 2 = (if neg then 1 else 0) ∧ double.word neg r % 9223372036854775808 = r:=by
  unfold Format.word
  rw [Jz]
  cases neg
  ·simp
   omega
  ·simp
   omega
 unfold Format.read
 rw [Jz,QV,QW,Ku,hs.1,hs.2]
 simp only
 rw [if_neg (by omega),if_pos (by omega)]
 have e1:((if neg = true then 1 else 0) == 1) = neg:=by cases neg <;> rfl
 have e2:4503599627370496 + r % 4503599627370496 = m:=by omega
 have e3:(-1074:Int) + ((r / 4503599627370496 - 1:Nat):Int) = (n.log2:Int) - 52:=by omega
 rw [e2,e3]
 cases neg <;> rfl
theorem kQ (n:Int) (h:n.natAbs < 9007199254740992):∃ m k:Nat,double.read (F n) = .number (decide (n < 0)) m (-(k:Int)) ∧ m = n.natAbs * 2 ^ k:=by
 by_cases hn:n = 0
 ·subst hn
  have hz:∀ k:Nat,0 = (0:Int).natAbs * 2 ^ k:=fun k => (Nat.zero_mul _).symm
  exact ⟨0,1074,by decide +kernel,hz 1074⟩
 ·have hl:=J3 n.natAbs (by omega) h
  refine ⟨_,52 - n.natAbs.log2,?_,rfl⟩
  rw [aC n hn h,RY _ _ (by omega) h]
  congr 1
  omega
theorem XN (a:Int) (ha:a.natAbs < 9007199254740992):fin (F a) = true ∧ LU (F a) = false ∧ F a < 18446744073709551616:=by
 by_cases h0:a = 0
 ·subst h0
  rw [YS]
  decide
 ·have hr:=QX a.natAbs (by omega) ha
  rw [aC a h0 ha]
  unfold fin LU Format.word
  rw [Jz]
  generalize Ff a.natAbs = r at hr
  by_cases hc:a < 0
  ·simp [hc]
   omega
  ·simp [hc]
   omega
end Go.Proofs.Ytnkkgofpifhoeaa.OG
end
section
namespace Go.Proofs.Ytnkkgofpifhoeaa.Ch
open Go.RowKit Go.Proofs.Ytnkkgofpifhoeaa.OG Go.Proofs.Ytnkkgofpifhoeaa.Base Go.Proofs.Ytnkkgofpifhoeaa.Num Go.Proofs.Ytnkkgofpifhoeaa.Steps Go.Proofs.YtnkkgofpifhoeaaW.PrintWords Go.Proofs.YtnkkgofpifhoeaaW.PrintLast
theorem QY (n:Int) (w:World):(convert 3 38 (.int .i64 n)).run Try.prog w = .ok (.float .f64 (F n)) w:=by
 have h1:=Try.underlying3
 have h2:=Try.underlying38
 simp [convert,h1,h2]
 rfl
theorem NV (p q:Nat) (hp:p < 18446744073709551616) (hq:q < 18446744073709551616) (w:World):Calls Try.prog 69 #[.complex .f64 p q] w fun e w' => e = .returned (.bool (Bc p q)) ∧ Below w.heap.size w w':=by
 go_enter Try.func69,Try.ntmps69
 go_wp2_with (go_at_call 99; refine (KZ p q hp hq _).mono ?_; rintro e w' ⟨rfl,hb⟩; have HB:=Lib.hid hb; clear hb)
 go_ret
 exact ⟨rfl,HB.out⟩
def NY (p q:Nat):Array Value:=#[.int .i64 2,.int .i64 0,.complex .f64 p q,.string ⟨#[]⟩,.int .i64 0,.int .u32 0,.int .u64 0,.slice none 0 0,.slice none 0 0]
def kR (p cp:Nat):Prop:=∀ w:World,Calls Try.prog 126 #[.float .f64 p] w fun e w' => e = .returned (.float .f64 cp) ∧ w = w'
theorem aG (w:World) (p q:Nat):(Instr.build 185 #[(0,.int .i64 2),(2,.complex .f64 p q)]).run Try.prog w = .ok (.agg #[.int .i64 2,.int .i64 0,.complex .f64 p q,.string ⟨#[]⟩,.int .i64 0,.int .u32 0,.int .u64 0,.slice none 0 0,.slice none 0 0]) w:=by kernel_rfl
def TZ:Array Value:=#[.int .i64 0,.int .i64 0,.complex .f64 0 0,.string ⟨#[]⟩,.int .i64 0,.int .u32 0,.int .u64 0,.slice none 0 0,.slice none 0 0]
theorem Ud (w:World) (v:Value):(Instr.alloc 185 true v).run Try.prog w = .ok (.pointer (some ⟨w.heap.size,0,none⟩)) (w.alloc (.cells #[.int .i64 0,.int .i64 0,.complex .f64 0 0,.string ⟨#[]⟩,.int .i64 0,.int .u32 0,.int .u64 0,.slice none 0 0,.slice none 0 0] 185)):=by kernel_rfl
theorem aH (p q cp cq:Nat) (hp:fin p = true) (hq:fin q = true) (c1:kR p cp) (c2:kR q cq) (w:World) :
  Calls Try.prog 105 #[.complex .f64 p q] w fun e w' => e = .returned (.tuple #[.agg (NY cp cq),.int .i64 0]) ∧ Below w.heap.size w w':=by
 have hbz:=aG
 have hal:=Ud
 have H1:=Lib.hid c1
 have H2:=Lib.hid c2
 have G1:=Lib.hid hp
 have G2:=Lib.hid hq
 clear c1 c2 hp hq
 go_enter Try.func105,Try.ntmps105
 go_wp2_with fail
 refine (BZ p G1.out _).mono ?_
 rintro e w' ⟨rfl,n0,rfl⟩
 go_wp2_with fail
 refine (BZ q G2.out _).mono ?_
 rintro e w' ⟨rfl,n1,rfl⟩
 go_wp2_with fail
 refine (H1.out _).mono ?_
 rintro e w' ⟨rfl,rfl⟩
 go_wp2_with fail
 refine (H2.out _).mono ?_
 rintro e w' ⟨rfl,rfl⟩
 go_wp2_with (((with_reducible refine gate_ (.store 185 (.tmp 2) (.tmp 22)) rfl ?_); refine Ae rfl rfl 185 (.tmp 2) (.tmp 22) rfl w.heap.size (NY cp cq) rfl rfl 185 _ (heap_alloc_new w _) (by kernel_rfl) rfl (by kernel_rfl) ?_; intro w5 hb5 CQ; have Hy:=Lib.hid hb5; have Ey:=Lib.hid CQ; clear hb5 CQ))
 refine bodyPost_ret (v:=.tuple #[.agg (NY cp cq),.int .i64 0]) ?_ rfl ⟨rfl,Ey.out.below (DN ((Below.refl _ _).alloc (Nat.le_refl _) _) _) (Nat.le_refl _)⟩
 have hl5:=run_loadVar_row (P:=Try.prog) w5 w.heap.size 185 185 _ (0,0) _ Hy.out Try.underlying185 rfl (by kernel_rfl)
 exact Ag Try.results105 _ _ rfl rfl hl5
end Go.Proofs.Ytnkkgofpifhoeaa.Ch
end
