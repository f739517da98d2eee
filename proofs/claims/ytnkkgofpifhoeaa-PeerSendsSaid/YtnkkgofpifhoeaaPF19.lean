/- What the laws of a pair are proved with: links and pairs in memory, what their methods do, what a pair keeps to (part 19). -/
import Derived.Test.YtnkkgofpifhoeaaPF10
import Derived.Test.YtnkkgofpifhoeaaPF15
import Derived.Test.YtnkkgofpifhoeaaPF16
import Derived.Test.YtnkkgofpifhoeaaPF17
import Derived.Test.YtnkkgofpifhoeaaPF18
import Derived.Laws.StructEq
import Derived.Deep.LoopGhost
import Derived.Lib.Hide
import Derived.MapFrom
set_option linter.unusedSimpArgs false
set_option linter.unusedVariables false
set_option maxRecDepth 100000
set_option maxHeartbeats 16000000
namespace Go.Proofs.Ytnkkgofpifhoeaa
theorem jb {p:Prop} (h:p:=by
 obtain ⟨es,clk,hb,hf⟩:=h
 rcases hf k with ⟨h1,h2⟩ | ⟨x,i,h1,h2⟩
 ·unfold found at h2
  rw [h1]
  simp [Instr.lookup,run_underlying Try.underlying165,MapKept.run_getObj_map hb,MapKept.run_checkKey Try.underlying3 (IV k),MapKept.run_findKey Try.underlying3 h2,Us,Result.andThen,ptr]
 ·unfold found at h2
  rw [h1]
  simp [Instr.lookup,run_underlying Try.underlying165,MapKept.run_getObj_map hb,MapKept.run_checkKey Try.underlying3 (IV k),MapKept.run_findKey Try.underlying3 h2,Us,Result.andThen]):p:=h
end Go.Proofs.Ytnkkgofpifhoeaa
section
namespace Go.Proofs.Ytnkkgofpifhoeaa.Lk
open Go.RowKit Go.Proofs.Ytnkkgofpifhoeaa.Base Go.Proofs.Ytnkkgofpifhoeaa.Pk Go.Proofs.YtnkkgofpifhoeaaW.PrintWords
def LM (L:Lk) (p:BL):Nat:=(IntKind.u32.wrap (p.AX - L.base)).toNat
def KA (L:Lk) (p:BL):Lk:=if p.kind = 2 ∧ p.seq = L.expected then BB L else L
def QM (L:Lk) (p:BL):Lk:=if 1 ≤ LM L p ∧ (LM L p:Int) ≤ L.sent then BP (Cb (KA L p) (LM L p)) else KA L p
def UD (L:Lk) (p:BL):Lk:=if p.kind = 2 then emit_ (QM L p) (LK (QM L p)) else QM L p
def aT (L:Lk) (p:BL):List Int:=if p.kind = 2 ∧ p.seq = L.expected then p.body else []
structure Tk where
 heard:Bool
 up:Bool
 down:Bool
 body:List Int
def Ik (L:Lk) (AL:Int) (p:BL):Lk:={ L with AL:=AL,yours:=p.mine,known:=true }
def BO (L:Lk) (AL:Int) (p:BL):Lk × Tk :=
 if L.phase = 0 ∨ CX L AL p.mine = -1 then (L,⟨false,false,false,[]⟩)
 else if p.kind = 1 then
  if L.phase = 1 then
   if BQ L p = true then (emit_ { Ik L AL p with phase:=2 } (Cf { Ik L AL p with phase:=2 }),⟨true,true,false,[]⟩)
   else (emit_ (Ik L AL p) (Cf (Ik L AL p)),⟨true,false,false,[]⟩)
  else if CX L AL p.mine = 0 then (if p.seq = 0 then emit_ L (Cf L) else L,⟨true,false,false,[]⟩)
  else if L.token = 4294967295 then (ET L,⟨true,false,true,[]⟩)
  else (emit_ (Ik (Dj L) AL p) (Cf (Ik (Dj L) AL p)),⟨true,false,true,[]⟩)
 else if L.phase = 2 ∧ CX L AL p.mine = 0 ∧ BQ L p = true then (UD L p,⟨true,false,false,aT L p⟩)
 else (L,⟨false,false,false,[]⟩)
theorem WH (L:Lk) (AL mine:Int):CX L AL mine = -1 ∨ CX L AL mine = 0 ∨ CX L AL mine = 1:=by
 unfold CX
 split
 ·exact .inl rfl
 ·split
  ·split
   ·exact .inl rfl
   ·split
    ·exact .inr (.inl rfl)
    ·exact .inr (.inr rfl)
  ·exact .inr (.inr rfl)
def PG (w:World) (B:Nat) (S:Nat → Prop) (g:Nat) (x:Lk × Tk):Ending → World → Prop:=EW w B S g x.1 x.2.heard x.2.up x.2.down x.2.body
theorem Ut {w:World} {B g:Nat} {Af Ac S:Nat → Prop} {L:Lk} {q o:Value} (h:At w B Af Ac g L q o) (hok:L.Ok) (hS:∀ k,holds Af Ac g k → S k) (hB:B ≤ w.heap.size) (AL:Int) (p:BL) (Ab:Option Addr) (cb:Nat)
  (hb0:AL ≠ 0) (hbr:0 ≤ AL ∧ AL < 4294967296) (hpr:p.JV) (hck:Aj p.kind p.mine p.AL p.yours p.seq p.AX p.stamp p.echo p.zr p.zi p.body.length = 0) (hpl:p.body.length ≤ 1000)
  {C9:Nat → Prop} (hR:(Kd.int .u8).R 5 w B C9 (.slice Ab p.body.length cb) p.body) (hkp:∀ k,C9 k → ¬ S k) :
  Calls Try.prog 34 #[.pointer (some ⟨g,0,none⟩),.int .u32 AL,.agg #[.int .i64 p.kind,.int .u32 p.mine,.int .u32 p.AL,.int .u32 p.yours,.int .u32 p.seq,.int .u32 p.AX,.int .u32 p.stamp,.int .u32 p.echo,.complex .f64 p.zr p.zi,.slice Ab p.body.length cb]] w (PG w B S g (BO L AL p)):=by
 have DX:=hok.phase
 have hag:=WH L AL p.mine
 unfold PG BO
 by_cases h0:L.phase = 0
 ·rw [if_pos (.inl h0)]
  exact QI h hok hS hB AL p Ab cb hb0 hbr hpr hck h0
 by_cases ho:CX L AL p.mine = -1
 ·rw [if_pos (.inr ho)]
  exact SA h hok hS hB AL p Ab cb hb0 hbr hpr hck h0 ho
 rw [if_neg (fun x => x.elim h0 ho)]
 by_cases hk:p.kind = 1
 ·rw [if_pos hk]
  by_cases h1:L.phase = 1
  ·rw [if_pos h1]
   by_cases hm:BQ L p = true
   ·rw [if_pos hm]
    exact Ny h hok hS hB AL p Ab cb hb0 hbr hpr hck h1 (by omega) hk hm
   ·rw [if_neg hm]
    exact Nz h hok hS hB AL p Ab cb hb0 hbr hpr hck h1 (by omega) hk (by simpa using hm)
  ·rw [if_neg h1]
   have h2:L.phase = 2:=by omega
   by_cases ha:CX L AL p.mine = 0
   ·rw [if_pos ha]
    by_cases hs:p.seq = 0
    ·rw [if_pos hs]
     exact MI h hok hS hB AL p Ab cb hb0 hbr hpr hck h2 ha hk hs
    ·rw [if_neg hs]
     exact MJ h hok hS hB AL p Ab cb hb0 hbr hpr hck h2 ha hk hs
   ·rw [if_neg ha]
    by_cases hmx:L.token = 4294967295
    ·rw [if_pos hmx]
     exact N8 h hok hS hB AL p Ab cb hb0 hbr hpr hck h2 (by omega) hk hmx
    ·rw [if_neg hmx]
     exact N9 h hok hS hB AL p Ab cb hb0 hbr hpr hck h2 (by omega) hk hmx
 rw [if_neg hk]
 by_cases hu:L.phase = 2 ∧ CX L AL p.mine = 0 ∧ BQ L p = true
 ·rw [if_pos hu]
  obtain ⟨h2,ha,hm⟩:=hu
  have hkk:IntKind.u32.wrap (p.AX - L.base) = (LM L p:Int):=(Int.toNat_of_nonneg (wrap32 _).1).symm
  generalize hkn:LM L p = kn at hkk
  unfold UD QM aT
  rw [hkn]
  by_cases hd:p.kind = 2
  ·by_cases hs:p.seq = L.expected
   ·have hM:KA L p = BB L:=by unfold KA; rw [if_pos (show p.kind = 2 ∧ p.seq = L.expected from ⟨hd,hs⟩)]
    rw [hM,if_pos hd,if_pos (show p.kind = 2 ∧ p.seq = L.expected from ⟨hd,hs⟩)]
    by_cases hz:kn = 0
    ·rw [if_neg (by omega)]
     exact OI h hok hS hB AL p Ab cb hb0 hbr hpr hck h2 ha hm hpl hR hkp kn hkk hd hs hz
    ·by_cases hle:(kn:Int) ≤ L.sent
     ·rw [if_pos ⟨by omega,hle⟩]
      exact OH h hok hS hB AL p Ab cb hb0 hbr hpr hck h2 ha hm hpl hR hkp kn hkk hd hs (by omega) hle
     ·rw [if_neg (fun x => hle x.2)]
      exact OJ h hok hS hB AL p Ab cb hb0 hbr hpr hck h2 ha hm hpl hR hkp kn hkk hd hs (by omega) (by omega)
   ·have hM:KA L p = L:=by unfold KA; rw [if_neg (fun x => hs x.2)]
    rw [hM,if_pos hd,if_neg (show ¬ (p.kind = 2 ∧ p.seq = L.expected) from fun x => hs x.2)]
    by_cases hz:kn = 0
    ·rw [if_neg (by omega)]
     exact OE h hok hS hB AL p Ab cb hb0 hbr hpr hck h2 ha hm hpl hR hkp kn hkk hd hs hz
    ·by_cases hle:(kn:Int) ≤ L.sent
     ·rw [if_pos ⟨by omega,hle⟩]
      exact OD h hok hS hB AL p Ab cb hb0 hbr hpr hck h2 ha hm hpl hR hkp kn hkk hd hs (by omega) hle
     ·rw [if_neg (fun x => hle x.2)]
      exact OG h hok hS hB AL p Ab cb hb0 hbr hpr hck h2 ha hm hpl hR hkp kn hkk hd hs (by omega) (by omega)
  ·have hM:KA L p = L:=by unfold KA; rw [if_neg (fun x => hd x.1)]
   rw [hM,if_neg hd,if_neg (show ¬ (p.kind = 2 ∧ p.seq = L.expected) from fun x => hd x.1)]
   by_cases hz:kn = 0
   ·rw [if_neg (by omega)]
    exact OB h hok hS hB AL p Ab cb hb0 hbr hpr hck h2 ha hm hpl hR hkp kn hkk hk hd hz
   ·by_cases hle:(kn:Int) ≤ L.sent
    ·rw [if_pos ⟨by omega,hle⟩]
     exact OA h hok hS hB AL p Ab cb hb0 hbr hpr hck h2 ha hm hpl hR hkp kn hkk hk hd (by omega) hle
    ·rw [if_neg (fun x => hle x.2)]
     exact OC h hok hS hB AL p Ab cb hb0 hbr hpr hck h2 ha hm hpl hR hkp kn hkk hk hd (by omega) (by omega)
 ·rw [if_neg hu]
  by_cases h1:L.phase = 1
  ·exact SC h hok hS hB AL p Ab cb hb0 hbr hpr hck h1 (by omega) hk
  ·have h2:L.phase = 2:=by omega
   by_cases ha:CX L AL p.mine = 0
   ·exact SG h hok hS hB AL p Ab cb hb0 hbr hpr hck h2 ha hk (by
     cases hm:BQ L p
     ·rfl
     ·exact absurd ⟨h2,ha,hm⟩ hu)
   ·exact SE h hok hS hB AL p Ab cb hb0 hbr hpr hck h2 (by omega) hk
end Go.Proofs.Ytnkkgofpifhoeaa.Lk
end
section
namespace Go.Proofs.Ytnkkgofpifhoeaa.Lk
open Go.RowKit Go.Proofs.Ytnkkgofpifhoeaa.Base Go.Proofs.Ytnkkgofpifhoeaa.Steps Go.Proofs.YtnkkgofpifhoeaaW.PrintWords Go.Proofs.YtnkkgofpifhoeaaW.PrintLast
def sends:Nat → Lk → Lk
 | 0,L => L
 | n + 1,L => emit_ (sends n L) (H6 L n)
end Go.Proofs.Ytnkkgofpifhoeaa.Lk
end
section
namespace Go.Proofs.Ytnkkgofpifhoeaa.Lk
open Go.RowKit Go.Proofs.Ytnkkgofpifhoeaa.Base Go.Proofs.Ytnkkgofpifhoeaa.Pk Go.Proofs.YtnkkgofpifhoeaaW.PrintWords Go.Proofs.YtnkkgofpifhoeaaW.PrintLast
structure BL.Good (p:BL):Prop where
 YA:p.JV
 check:Aj p.kind p.mine p.AL p.yours p.seq p.AX p.stamp p.echo p.zr p.zi p.body.length = 0
 len:p.body.length ≤ 1000
def more (own:Nat → Prop) (w w':World):Nat → Prop:=fun k => own k ∨ w.heap.size ≤ k ∧ k < w'.heap.size
section
variable {w:World} {B g:Nat} {own:Nat → Prop} {L:Lk} (h:End w B own g L) (hB:B ≤ w.heap.size)
include h
theorem phase_end:Calls Try.prog 29 #[.pointer (some ⟨g,0,none⟩)] w fun e w' => e = .returned (.int .i64 L.phase) ∧ w = w':=by
 obtain ⟨_,_,_,_,h,_⟩:=h
 exact Rn h
theorem QN:Calls Try.prog 31 #[.pointer (some ⟨g,0,none⟩)] w fun e w' => e = .returned (.int .i64 L.queue.length) ∧ w = w':=by
 obtain ⟨_,_,_,_,h,_⟩:=h
 exact Ro h
include hB
theorem JX (hok:L.Ok):Calls Try.prog 27 #[.pointer (some ⟨g,0,none⟩)] w fun e w' => e = .returned (.int .i64 (Ij L)) ∧ DD w B own g (EE L) w':=by
 obtain ⟨_,_,_,_,h,ho⟩:=h
 exact (Ul h hok hB).mono fun e w' hq => ⟨hq.1,Hy.turns ho hq.2⟩
omit hB in
theorem MK:Calls Try.prog 78 #[.pointer (some ⟨g,0,none⟩)] w fun e w' => e = .returned (.bool (decide (L.phase = 2))) ∧ DD w B own g (ET L) w':=by
 obtain ⟨_,_,_,_,h,ho⟩:=h
 refine (O7 h).mono fun e w' hq => ⟨hq.1,⟨⟨_,_,_,_,hq.2.1,fun k hk => .inl (ho k ?_)⟩,(FX hq.2.2).mono (fun k hk => ho k (.inr (.inr hk))),hq.2.2.below (Below.refl _ _) h.low⟩⟩
 rcases hk with hk | hk | hk
 ·exact hk.elim
 ·exact .inr (.inl hk)
 ·exact .inr (.inr hk)
theorem SV (hok:L.Ok) (body:List Int) (Ab:Option Addr) (cb:Nat) (hC:(Kd.int .u8).C w Ab body.length body) :
  Calls Try.prog 30 #[.pointer (some ⟨g,0,none⟩),.slice Ab body.length cb] w fun e w' => e = .returned (.int .i64 (Dq L body.length)) ∧ DD w B own g (D6 L body) w':=by
 obtain ⟨_,_,_,_,h,ho⟩:=h
 exact LH h hok hB body Ab cb hC ho
omit hB in
theorem Uu:Calls Try.prog 32 #[.pointer (some ⟨g,0,none⟩)] w fun e w' => ∃ o XQ,e = .returned o ∧ DD w B own g { L with out:=[] } w' ∧ pkt.R 27 w' B XQ o L.out ∧ (∀ k,XQ k → own k) ∧ w'.heap.size = w.heap.size:=by
 obtain ⟨Af,Ac,_,o,h,ho⟩:=h
 refine (Nw h).mono fun e w' hq => ⟨o,Ac,hq.1,⟨⟨_,_,_,_,hq.2.1,fun k hk => .inl (ho k ?_)⟩,(FX hq.2.2.2).mono (fun k hk => ho k (.inr (.inr hk))),hq.2.2.2.below (Below.refl _ _) h.low⟩,hq.2.2.1,fun k hk => ho k (.inr (.inl hk)),hq.2.2.2.size⟩
 rcases hk with hk | hk | hk
 ·exact .inl hk
 ·exact hk.elim
 ·exact .inr (.inr hk)
theorem SY (hok:L.Ok) (AL:Int) (p:BL) (hb:0 < AL ∧ AL < 4294967296) (hp:p.Good) {C9:Nat → Prop} {cs:List Value} (hM:pkt.M w B C9 p cs) (hkp:∀ k,C9 k → ¬ own k) :
  Calls Try.prog 34 #[.pointer (some ⟨g,0,none⟩),.int .u32 AL,.agg cs.toArray] w (PG w B own g (BO L AL p)):=by
 obtain ⟨_,_,_,_,h,ho⟩:=h
 obtain ⟨b,rfl,hR⟩:=F6.1 hM
 obtain ⟨Ab,cb,rfl,hlen⟩:=Kd.BA hR
 exact Ut h hok ho hB AL p Ab cb (by omega) (by omega) hp.YA hp.check hp.len hR hkp
end
theorem EW.turns {w:World} {B g:Nat} {own:Nat → Prop} {x:Lk × Tk} {e:Ending} {w':World} (h:PG w B own g x e w'):DD w B own g x.1 w':=by
 obtain ⟨vb,okb,he,hR,hk,hE,hK,hb⟩:=h
 exact ⟨hE.mono (fun k hk => hk.elim .inl (fun hn => .inr ⟨hn.1,hn.2.1⟩)),hK,hb⟩
end Go.Proofs.Ytnkkgofpifhoeaa.Lk
end
section
namespace Go.Proofs.Ytnkkgofpifhoeaa.Pe
open Go.Proofs.Ytnkkgofpifhoeaa.Pk Go.RowKit Go.Proofs.Ytnkkgofpifhoeaa.Base Go.Proofs.Ytnkkgofpifhoeaa.Num Go.Proofs.Ytnkkgofpifhoeaa.Pv Go.Proofs.YtnkkgofpifhoeaaW.PrintWords
abbrev p4 (n:Int):List Int:=Pk.CJ (IntKind.u64.wrap n)
def EX (p:Lk.BL):List Int :=
 if p.kind = 1 then (((([1] ++ p4 p.mine) ++ p4 p.AL) ++ p4 p.yours) ++ [IntKind.u8.wrap p.seq])
 else if p.kind = 2 then (((((([2] ++ p4 p.mine) ++ p4 p.AL) ++ p4 p.yours) ++ p4 p.seq) ++ p4 p.AX) ++ p.body)
 else if p.kind = 3 then ((((([3] ++ p4 p.mine) ++ p4 p.AL) ++ p4 p.yours) ++ p4 p.AX) ++ p.body)
 else ((((((((([4] ++ p4 p.mine) ++ p4 p.AL) ++ p4 p.yours) ++ p4 p.AX) ++ p4 p.stamp) ++ p4 p.echo) ++ Pk.DU (p.zr:Int)) ++ Pk.DU (p.zi:Int)) ++ p.body)
structure Iy (p:Lk.BL):Prop where
 good:p.Good
 bytes:Pk.BV p.body
 z:p.kind ≠ 4 → p.zr = 0 ∧ p.zi = 0
 stamp:0 ≤ p.stamp ∧ p.stamp < 4294967296
 echo:0 ≤ p.echo ∧ p.echo < 4294967296
theorem YB (n:Int) (h:0 ≤ n ∧ n < 4294967296):IntKind.u32.wrap (Pk.Hr 0 (p4 n)) = n:=by
 unfold p4
 rw [Pk.wraps_u64 n h.1 (by omega),Pk.O3,Gg]
 show (((((0 * 256) % 18446744073709551616 + n / 16777216 % 256) * 256 % 18446744073709551616 + n / 65536 % 256) * 256 % 18446744073709551616 + n / 256 % 256) * 256 % 18446744073709551616 + n % 256) % 4294967296 = n
 omega
theorem YC (n:Nat) (h:n < 18446744073709551616):(Pk.Hr 0 (Pk.DU (n:Int))).toNat = n:=by
 rw [Pk.O4]
 have e0:(0 * 256) % 18446744073709551616 + (n:Int) / 72057594037927936 % 256 = (n:Int) / 72057594037927936:=by omega
 have e1:((n:Int) / 72057594037927936) * 256 % 18446744073709551616 + (n:Int) / 281474976710656 % 256 = (n:Int) / 281474976710656:=by omega
 have e2:((n:Int) / 281474976710656) * 256 % 18446744073709551616 + (n:Int) / 1099511627776 % 256 = (n:Int) / 1099511627776:=by omega
 have e3:((n:Int) / 1099511627776) * 256 % 18446744073709551616 + (n:Int) / 4294967296 % 256 = (n:Int) / 4294967296:=by omega
 have e4:((n:Int) / 4294967296) * 256 % 18446744073709551616 + (n:Int) / 16777216 % 256 = (n:Int) / 16777216:=by omega
 have e5:((n:Int) / 16777216) * 256 % 18446744073709551616 + (n:Int) / 65536 % 256 = (n:Int) / 65536:=by omega
 have e6:((n:Int) / 65536) * 256 % 18446744073709551616 + (n:Int) / 256 % 256 = (n:Int) / 256:=by omega
 have e7:((n:Int) / 256) * 256 % 18446744073709551616 + (n:Int) % 256 = (n:Int):=by omega
 show (((((((((0 * 256) % 18446744073709551616 + (n:Int) / 72057594037927936 % 256) * 256 % 18446744073709551616 + (n:Int) / 281474976710656 % 256) * 256 % 18446744073709551616 + (n:Int) / 1099511627776 % 256) * 256 % 18446744073709551616 + (n:Int) / 4294967296 % 256) * 256 % 18446744073709551616 + (n:Int) / 16777216 % 256) * 256 % 18446744073709551616 + (n:Int) / 65536 % 256) * 256 % 18446744073709551616 + (n:Int) / 256 % 256) * 256 % 18446744073709551616 + (n:Int) % 256).toNat = n
 rw [e0,e1,e2,e3,e4,e5,e6,e7]
 exact Int.toNat_natCast n
theorem Bh {l:List Int} {a:Nat} {n:Int} (h:0 ≤ n ∧ n < 4294967296) (hl:(l.drop a).take 4 = p4 n):Pk.at4 l a = n:=by
 unfold Pk.at4
 rw [hl]
 exact YB n h
theorem ML {l:List Int} {a n:Nat} (h:n < 18446744073709551616) (hl:(l.drop a).take 8 = Pk.DU (n:Int)):Pk.at8 l a = n:=by
 unfold Pk.at8
 rw [hl]
 exact YC n h
def WI (p:Lk.BL):Pk.BL:=⟨p.kind,p.mine,p.AL,p.yours,p.seq,p.AX,p.stamp,p.echo,p.zr,p.zi,p.body⟩
theorem WJ {mine AL yours seq AX stamp echo:Int} {zr zi n:Nat} (h:Aj 1 mine AL yours seq AX stamp echo zr zi n = 0):seq < 2 ∧ n = 0 ∧ AX = 0 ∧ stamp = 0 ∧ echo = 0:=by
 unfold Aj at h
 rw [if_pos rfl] at h
 split at h
 ·rename_i hg
  unfold good1 at hg
  rw [Bool.and_eq_true,decide_eq_true_eq] at hg
  exact ⟨hg.1.2.1,hg.1.2.2.2.1,hg.1.2.2.2.2.1,hg.1.2.2.2.2.2.1,hg.1.2.2.2.2.2.2⟩
 ·cases h
theorem WL {mine AL yours seq AX stamp echo:Int} {zr zi n:Nat} (h:Aj 2 mine AL yours seq AX stamp echo zr zi n = 0):n ≤ 1000 ∧ 0 < n ∧ stamp = 0 ∧ echo = 0:=by
 unfold Aj at h
 rw [if_neg (by decide),if_pos rfl] at h
 split at h
 ·cases h
 ·split at h
  ·rename_i hn hg
   unfold Ic at hg
   rw [Bool.and_eq_true,decide_eq_true_eq] at hg
   exact ⟨by omega,hg.1.2.2.2.1,hg.1.2.2.2.2.1,hg.1.2.2.2.2.2⟩
  ·cases h
theorem WM {mine AL yours seq AX stamp echo:Int} {zr zi n:Nat} (h:Aj 3 mine AL yours seq AX stamp echo zr zi n = 0):n = 0 ∧ seq = 0 ∧ stamp = 0 ∧ echo = 0:=by
 unfold Aj at h
 rw [if_neg (by decide),if_neg (by decide),if_pos rfl] at h
 split at h
 ·rename_i hg
  unfold Ie at hg
  rw [Bool.and_eq_true,decide_eq_true_eq] at hg
  exact ⟨hg.1.2.2.2.1,hg.1.2.2.2.2.1,hg.1.2.2.2.2.2.1,hg.1.2.2.2.2.2.2⟩
 ·cases h
theorem WN {mine AL yours seq AX stamp echo:Int} {zr zi n:Nat} (h:Aj 4 mine AL yours seq AX stamp echo zr zi n = 0):n = 0 ∧ seq = 0:=by
 unfold Aj at h
 rw [if_neg (by decide),if_neg (by decide),if_neg (by decide),if_pos rfl] at h
 split at h
 ·rename_i hg
  unfold JF at hg
  rw [Bool.and_eq_true,decide_eq_true_eq] at hg
  exact ⟨hg.2.2.2.2.1,hg.2.2.2.2.2⟩
 ·cases h
theorem PI {p:Lk.BL} (h:p.Good):p.kind = 1 ∨ p.kind = 2 ∨ p.kind = 3 ∨ p.kind = 4:=by
 have hc:=h.check
 unfold Aj at hc
 split at hc
 ·exact .inl (by assumption)
 split at hc
 ·exact .inr (.inl (by assumption))
 split at hc
 ·exact .inr (.inr (.inl (by assumption)))
 split at hc
 ·exact .inr (.inr (.inr (by assumption)))
 ·cases hc
theorem LQ {l:List Int} {q:Pk.BL} (k:Int) (hk:rd l 0 = k) (h1:1 ≤ k ∧ k ≤ 4) (hl:Pk.least k ≤ l.length ∧ l.length ≤ Pk.most k) (h0:0 < l.length) (hq:Pk.ES l = q) (hc:q.code = 0):Pk.DT l = 0 ∧ Pk.JP l = q:=by
 have hd:Pk.DT l = 0:=by
  unfold Pk.DT
  rw [if_neg (by omega),hk,if_neg (by omega),if_neg (by omega),if_neg (by omega),hq,hc]
 refine ⟨hd,?_⟩
 unfold Pk.JP
 rw [if_pos hd,hq]
theorem Si {p:Lk.BL} (h:Iy p):Pk.DT (EX p) = 0 ∧ Pk.JP (EX p) = WI p:=by
 obtain ⟨k,m,bt,y,sq,ak,st,ec,zr,zi,bd⟩:=p
 have hr:=h.good.YA
 have hm:0 ≤ m ∧ m < 4294967296:=hr.mine
 have hb:0 ≤ bt ∧ bt < 4294967296:=hr.AL
 have hy:0 ≤ y ∧ y < 4294967296:=hr.yours
 have hs:0 ≤ sq ∧ sq < 4294967296:=hr.seq
 have ha:0 ≤ ak ∧ ak < 4294967296:=hr.AX
 have hst:0 ≤ st ∧ st < 4294967296:=h.stamp
 have qP:0 ≤ ec ∧ ec < 4294967296:=h.echo
 have hc:=h.good.check
 have hk:=PI h.good
 have hz:k ≠ 4 → zr = 0 ∧ zi = 0:=h.z
 have qQ:zr < 18446744073709551616:=hr.zr
 have hzi:zi < 18446744073709551616:=hr.zi
 have hcode:(WI ⟨k,m,bt,y,sq,ak,st,ec,zr,zi,bd⟩).code = 0:=hc
 simp only at hc hk
 rcases hk with rfl | rfl | rfl | rfl
 ·obtain ⟨h1,h2,rfl,rfl,rfl⟩:=WJ hc
  obtain rfl:=List.eq_nil_of_length_eq_zero h2
  obtain ⟨rfl,rfl⟩:=hz (by decide)
  refine LQ 1 rfl (by decide) ⟨(show (14:Nat) ≤ 14 from by decide),(show (14:Nat) ≤ 14 from by decide)⟩ (show (0:Nat) < 14 from by decide) ?_ hcode
  unfold Pk.ES
  rw [if_pos (show rd (EX _) 0 = 1 from rfl)]
  unfold Pk.RP WI
  rw [Bh hm (show _ = p4 m from rfl),Bh hb (show _ = p4 bt from rfl),Bh hy (show _ = p4 y from rfl)]
  have e:IntKind.u32.wrap (rd (EX ⟨1,m,bt,y,sq,0,0,0,0,0,[]⟩) 13) = sq:=by
   show IntKind.u32.wrap (IntKind.u8.wrap sq) = sq
   rw [Gg,IntKind.wrap_u8]
   omega
  rw [e]
 ·obtain ⟨h1,h2,rfl,rfl⟩:=WL hc
  obtain ⟨rfl,rfl⟩:=hz (by decide)
  have hlen:(EX ⟨2,m,bt,y,sq,ak,0,0,0,0,bd⟩).length = bd.length + 21:=rfl
  refine LQ 2 rfl (by decide) ⟨?_,?_⟩ (by rw [hlen]; omega) ?_ hcode
  ·rw [hlen]; show 22 ≤ _; omega
  ·rw [hlen]; show _ ≤ 1021; omega
  unfold Pk.ES
  rw [show rd (EX _) 0 = (2:Int) from rfl,if_neg (by decide),if_pos rfl]
  unfold Pk.RQ WI
  rw [Bh hm (show _ = p4 m from rfl),Bh hb (show _ = p4 bt from rfl),Bh hy (show _ = p4 y from rfl),Bh hs (show _ = p4 sq from rfl),Bh ha (show _ = p4 ak from rfl)]
  rfl
 ·obtain ⟨h1,rfl,rfl,rfl⟩:=WM hc
  obtain rfl:=List.eq_nil_of_length_eq_zero h1
  obtain ⟨rfl,rfl⟩:=hz (by decide)
  refine LQ 3 rfl (by decide) ⟨(show (17:Nat) ≤ 17 from by decide),(show (17:Nat) ≤ 17 from by decide)⟩ (show (0:Nat) < 17 from by decide) ?_ hcode
  unfold Pk.ES
  rw [show rd (EX _) 0 = (3:Int) from rfl,if_neg (by decide),if_neg (by decide),if_pos rfl]
  unfold Pk.RS WI
  rw [Bh hm (show _ = p4 m from rfl),Bh hb (show _ = p4 bt from rfl),Bh hy (show _ = p4 y from rfl),Bh ha (show _ = p4 ak from rfl)]
 ·obtain ⟨h1,rfl⟩:=WN hc
  obtain rfl:=List.eq_nil_of_length_eq_zero h1
  refine LQ 4 rfl (by decide) ⟨(show (41:Nat) ≤ 41 from by decide),(show (41:Nat) ≤ 41 from by decide)⟩ (show (0:Nat) < 41 from by decide) ?_ hcode
  unfold Pk.ES
  rw [show rd (EX _) 0 = (4:Int) from rfl,if_neg (by decide),if_neg (by decide),if_neg (by decide)]
  unfold Pk.RU WI
  rw [Bh hm (show _ = p4 m from rfl),Bh hb (show _ = p4 bt from rfl),Bh hy (show _ = p4 y from rfl),Bh ha (show _ = p4 ak from rfl),Bh hst (show _ = p4 st from rfl),Bh qP (show _ = p4 ec from rfl),ML qQ (show _ = Pk.DU (zr:Int) from rfl),ML hzi (show _ = Pk.DU (zi:Int) from rfl)]
end Go.Proofs.Ytnkkgofpifhoeaa.Pe
end
section
namespace Go.Proofs.Ytnkkgofpifhoeaa.Pv
open Ieee
theorem Sj (n k:Nat):n <<< k = n * 2 ^ k:=Nat.shiftLeft_eq n k
theorem Sl (neg:Bool) (n:Nat):Toward.even.cut neg n 0 = n:=by
 unfold Toward.cut
 simp
 omega
theorem QO (neg:Bool) (n k:Nat) (hn:0 < n):Toward.even.cut neg (n * 2 ^ k) k = n:=by
 unfold Toward.cut
 have hp:0 < 2 ^ k:=Nat.two_pow_pos k
 have qR:k ≤ (n * 2 ^ k).log2:=by
  rw [Nat.le_log2 (by exact Nat.ne_of_gt (Nat.mul_pos hn hp))]
  exact Nat.le_mul_of_pos_left _ hn
 have hmin:min k ((n * 2 ^ k).log2 + 2) = k:=by omega
 simp only [hmin,Sj,Nat.one_mul]
 have h1:n * 2 ^ k / 2 ^ k = n:=Nat.mul_div_cancel _ hp
 have h2:n * 2 ^ k % 2 ^ k = 0:=Nat.mul_mod_left _ _
 rw [h1,h2]
 have h3:¬ 2 ^ k < 2 * 0:=by omega
 have h4:(2 ^ k == 2 * 0) = false:=by
  rw [beq_eq_false_iff_ne]
  omega
 simp [h4]
theorem QS (n k:Nat) (hn:0 < n):(n * 2 ^ k).log2 = n.log2 + k:=by
 induction k with
 | zero => simp
 | succ k ih =>
  have:n * 2 ^ (k + 1) = 2 * (n * 2 ^ k):=by rw [Nat.pow_succ]; rw [Nat.mul_comm 2,Nat.mul_assoc]
  rw [this,Nat.log2_two_mul (by exact Nat.ne_of_gt (Nat.mul_pos hn (Nat.two_pow_pos k))),ih]
  omega
theorem Sm:double.fractionBits = 52:=rfl
theorem KC:double.leastPlace = -1074:=by decide
theorem PK:double.binade = 4503599627370496:=by decide
theorem PL:double.infRung = 9218868437227405312:=by decide
theorem JY:double.signWeight = 9223372036854775808:=by decide
def FK (n:Nat):Nat:=(n.log2 + 1022) * 4503599627370496 + n * 2 ^ (52 - n.log2)
theorem JZ (n:Nat) (hn:0 < n) (h:n < 9007199254740992):n.log2 < 53:=(Nat.log2_lt (by omega)).2 h
theorem G8 (n:Nat) (hn:0 < n) (h:n < 9007199254740992):4503599627370496 ≤ n * 2 ^ (52 - n.log2) ∧ n * 2 ^ (52 - n.log2) < 9007199254740992:=by
 have hl:=JZ n hn h
 have h1:2 ^ n.log2 ≤ n:=Nat.log2_self_le (by omega)
 have h2:n < 2 ^ (n.log2 + 1):=Nat.lt_log2_self
 have e1:2 ^ n.log2 * 2 ^ (52 - n.log2) = 4503599627370496:=by
  rw [← Nat.pow_add,show n.log2 + (52 - n.log2) = 52 by omega]
 have e2:2 ^ (n.log2 + 1) * 2 ^ (52 - n.log2) = 9007199254740992:=by
  rw [← Nat.pow_add,show n.log2 + 1 + (52 - n.log2) = 53 by omega]
 have hp:0 < 2 ^ (52 - n.log2):=Nat.two_pow_pos _
 constructor
 ·rw [← e1]
  exact Nat.mul_le_mul_right _ h1
 ·rw [← e2]
  exact Nat.mul_lt_mul_of_pos_right h2 hp
theorem MM (neg:Bool) (n k:Nat) (hn:0 < n) (h:n < 9007199254740992):double.nearest neg (n * 2 ^ k) (-(k:Int)) = double.word neg (FK n):=by
 have hp:0 < 2 ^ k:=Nat.two_pow_pos k
 have hne:n * 2 ^ k ≠ 0:=Nat.ne_of_gt (Nat.mul_pos hn hp)
 have hl:=JZ n hn h
 have hkr:=G8 n hn h
 unfold Format.nearest
 rw [if_neg hne,QS n k hn,Sm,KC,PK,PL]
 simp only
 have hlast:max (-(k:Int) + ((n.log2 + k:Nat):Int) - ((52:Nat):Int)) (-1074) = (n.log2:Int) - 52:=by omega
 rw [hlast]
 have hkept:Toward.even.cut neg ((n * 2 ^ k) <<< (-(k:Int) - ((n.log2:Int) - 52)).toNat) ((n.log2:Int) - 52 - -(k:Int)).toNat = n * 2 ^ (52 - n.log2):=by
  by_cases hc:k ≤ 52 - n.log2
  ·have e1:(-(k:Int) - ((n.log2:Int) - 52)).toNat = 52 - n.log2 - k:=by omega
   have e2:((n.log2:Int) - 52 - -(k:Int)).toNat = 0:=by omega
   rw [e1,e2,Sl,Sj,Nat.mul_assoc,← Nat.pow_add,show k + (52 - n.log2 - k) = 52 - n.log2 by omega]
  ·have e1:(-(k:Int) - ((n.log2:Int) - 52)).toNat = 0:=by omega
   have e2:((n.log2:Int) - 52 - -(k:Int)).toNat = k - (52 - n.log2):=by omega
   rw [e1,e2,Nat.shiftLeft_zero]
   have e3:n * 2 ^ k = (n * 2 ^ (52 - n.log2)) * 2 ^ (k - (52 - n.log2)):=by
    rw [Nat.mul_assoc,← Nat.pow_add,show 52 - n.log2 + (k - (52 - n.log2)) = k by omega]
   rw [e3]
   exact QO neg _ _ (Nat.mul_pos hn (Nat.two_pow_pos _))
 rw [hkept]
 have e4:((n.log2:Int) - 52 - -1074).toNat = n.log2 + 1022:=by omega
 rw [e4]
 congr 1
 unfold FK
 omega
def F (n:Int):Nat:=double.nearest (decide (n < 0)) n.natAbs 0
theorem WO:F 0 = 0:=by decide
theorem YD (n:Int) (hn:n ≠ 0) (h:n.natAbs < 9007199254740992):F n = double.word (decide (n < 0)) (FK n.natAbs):=by
 have:=MM (decide (n < 0)) n.natAbs 0 (by omega) h
 simpa [F] using this
theorem PM (n:Nat) (hn:0 < n) (h:n < 9007199254740992):4503599627370496 ≤ FK n ∧ FK n < 9218868437227405312:=by
 have hl:=JZ n hn h
 have hk:=G8 n hn h
 unfold FK
 omega
theorem QT (neg:Bool) (n:Nat) (hn:0 < n) (h:n < 9007199254740992):double.read (double.word neg (FK n)) = .number neg (n * 2 ^ (52 - n.log2)) ((n.log2:Int) - 52):=by
 have hl:=JZ n hn h
 have hk:=G8 n hn h
 have hr:=PM n hn h
 have jc:FK n = (n.log2 + 1022) * 4503599627370496 + n * 2 ^ (52 - n.log2):=rfl
 generalize n * 2 ^ (52 - n.log2) = m at hk jc ⊢
 generalize FK n = r at hr jc ⊢
 have hs:double.word neg r / 9223372036854775808 % 2 = (if neg then 1 else 0) ∧ double.word neg r % 9223372036854775808 = r:=by
  unfold Format.word
  rw [JY]
  cases neg
  ·simp
   omega
  ·simp
   omega
 unfold Format.read
 rw [JY,PK,PL,KC,hs.1,hs.2]
 simp only
 rw [if_neg (by omega),if_pos (by omega)]
 have e1:((if neg = true then 1 else 0) == 1) = neg:=by cases neg <;> rfl
 have e2:4503599627370496 + r % 4503599627370496 = m:=by omega
 have e3:(-1074:Int) + ((r / 4503599627370496 - 1:Nat):Int) = (n.log2:Int) - 52:=by omega
 rw [e2,e3]
 cases neg <;> rfl
theorem di (n:Int) (h:n.natAbs < 9007199254740992):∃ m k:Nat,double.read (F n) = .number (decide (n < 0)) m (-(k:Int)) ∧ m = n.natAbs * 2 ^ k:=by
 by_cases hn:n = 0
 ·subst hn
  have hz:∀ k:Nat,0 = (0:Int).natAbs * 2 ^ k:=fun k => (Nat.zero_mul _).symm
  exact ⟨0,1074,by decide +kernel,hz 1074⟩
 ·have hl:=JZ n.natAbs (by omega) h
  refine ⟨_,52 - n.natAbs.log2,?_,rfl⟩
  rw [YD n hn h,QT _ _ (by omega) h]
  congr 1
  omega
theorem VN (a:Int) (ha:a.natAbs < 9007199254740992):fin (F a) = true ∧ NM (F a) = false ∧ F a < 18446744073709551616:=by
 by_cases h0:a = 0
 ·subst h0
  rw [WO]
  decide
 ·have hr:=PM a.natAbs (by omega) ha
  rw [YD a h0 ha]
  unfold fin NM Format.word
  rw [JY]
  generalize FK a.natAbs = r at hr
  by_cases hc:a < 0
  ·simp [hc]
   omega
  ·simp [hc]
   omega
end Go.Proofs.Ytnkkgofpifhoeaa.Pv
end
section
namespace Go.Proofs.Ytnkkgofpifhoeaa.Ch
open Go.RowKit Go.Proofs.Ytnkkgofpifhoeaa.Pv Go.Proofs.Ytnkkgofpifhoeaa.Base Go.Proofs.Ytnkkgofpifhoeaa.Num Go.Proofs.Ytnkkgofpifhoeaa.Steps Go.Proofs.YtnkkgofpifhoeaaW.PrintWords Go.Proofs.YtnkkgofpifhoeaaW.PrintLast
theorem Uw (n:Int) (w:World):(convert 3 38 (.int .i64 n)).run Try.prog w = .ok (.float .f64 (F n)) w:=by
 have h1:=Try.underlying3
 have h2:=Try.underlying38
 simp [convert,h1,h2]
 rfl
theorem Sr (p q:Nat) (hp:p < 18446744073709551616) (hq:q < 18446744073709551616) (w:World):Calls Try.prog 69 #[.complex .f64 p q] w fun e w' => e = .returned (.bool (Ei p q)) ∧ Below w.heap.size w w':=by
 go_enter Try.func69,Try.ntmps69
 go_wp2_with (go_at_call 99; refine (J5 p q hp hq _).mono ?_; rintro e w' ⟨rfl,hb⟩; have HB:=Lib.hid hb; clear hb)
 go_ret
 exact ⟨rfl,HB.out⟩
theorem IV (k:Int):MapKept.IsKey (.int .i64) (.int .i64 k):=by simp [MapKept.IsKey]
def found (es:Array MapEntry) (k:Int):Option (Option (Nat × Value)):=Instr.findNow (.int .i64) (.int .i64 k) es.toList 0
def QU (es:Array MapEntry) (clk:Nat) (k:Int) (v:Value):Array MapEntry:=es.push { key:=.int .i64 k,val:=v,born:=clk }
structure Gj (w:World) (g r:Nat) (p q:Nat) (es:Array MapEntry) (clk:Nat):Prop where
 blk:w.heap[g]? = some (.cells #[.complex .f64 p q,.map (some r)] 127 (0,0))
 map:w.heap[r]? = some (.map es clk)
 ne:g ≠ r
theorem Gj.below {w w1:World} {g r p q clk:Nat} {es:Array MapEntry} (h:Gj w g r p q es clk) (hb:Below w.heap.size w w1):Gj w1 g r p q es clk :=
 ⟨(hb.block g (AU h.blk)).trans h.blk,(hb.block r (AU h.map)).trans h.map,h.ne⟩
def PN (p q:Nat) (w:World) (e:Ending) (w':World):Prop:=∃ g r,e = .returned (.tuple #[.pointer (some ⟨g,0,none⟩),.int .i64 0]) ∧ Gj w' g r p q #[] 0 ∧ w.heap.size ≤ g ∧ w.heap.size ≤ r ∧ Below w.heap.size w w'
theorem WQ (p q:Nat) (hp:p < 18446744073709551616) (hq:q < 18446744073709551616) (hpl:Ei p q = true) (w:World):Calls Try.prog 22 #[.complex .f64 p q] w (PN p q w):=by
 have QJ:=Lib.hid hpl
 have hmm:=fun (W:World) => run_makeMap (P:=Try.prog) 125 W
 clear hpl
 go_enter Try.func22,Try.ntmps22
 go_wp2_with (go_at_call 69; refine (Sr p q hp hq _).mono ?_; rintro e w1 ⟨rfl,hb⟩; rw [QJ.out]; have HB:=Lib.hid hb; clear hb)
 go_ret2
 unfold PN
 have hsz:=HB.out.size
 have h1:=heap_alloc_new w1 (Obj.map #[] 0)
 have hb2:Below (w1.alloc (Obj.map #[] 0)).heap.size (w1.alloc (Obj.map #[] 0)) ((w1.alloc (Obj.map #[] 0)).alloc (Obj.cells #[.complex .f64 p q,.map (some w1.heap.size)] 127)):=(Below.refl _ _).alloc (Nat.le_refl _) _
 have h2:=heap_alloc_new (w1.alloc (Obj.map #[] 0)) (Obj.cells #[.complex .f64 p q,.map (some w1.heap.size)] 127)
 have hs:(w1.alloc (Obj.map #[] 0)).heap.size = w1.heap.size + 1:=by simp
 rw [hs] at h2
 refine ⟨_,_,rfl,⟨h2,(hb2.block _ (by rw [hs]; omega)).trans h1,by omega⟩,by omega,by omega,?_⟩
 exact (HB.out.alloc hsz _).alloc (by rw [hs]; omega) _
end Go.Proofs.Ytnkkgofpifhoeaa.Ch
end
section
namespace Go.Proofs.Ytnkkgofpifhoeaa.Pe
open Go.RowKit Go.Proofs.Ytnkkgofpifhoeaa.Base Go.Proofs.Ytnkkgofpifhoeaa.Steps Go.Proofs.Ytnkkgofpifhoeaa.Lk Go.Proofs.Ytnkkgofpifhoeaa.Ch Go.Proofs.YtnkkgofpifhoeaaW.PrintWords
theorem Us (w:World):(zeroValue 170).run Try.prog w = .ok (.pointer none) w:=by kernel_rfl
def ptr:Option Nat → Value
 | some x => .pointer (some ⟨x,0,none⟩)
 | none => .pointer none
def Mp (w:World) (r:Nat) (f:Int → Option Nat):Prop:=∃ es clk,w.heap[r]? = some (.map es clk) ∧ ∀ k,(f k = none ∧ found es k = some none) ∨ ∃ x i,f k = some x ∧ found es k = some (some (i,ptr (some x)))
theorem Mp.look {w:World} {r:Nat} {f:Int → Option Nat} (h:Mp w r f) (k:Int):(Instr.lookup 165 (.map (some r)) (.int .i64 k) true).run Try.prog w = .ok (.tuple #[ptr (f k),.bool (f k).isSome]) w:=by
 exact jb
theorem Mp.look1 {w:World} {r:Nat} {f:Int → Option Nat} (h:Mp w r f) (k:Int):(Instr.lookup 165 (.map (some r)) (.int .i64 k) false).run Try.prog w = .ok (ptr (f k)) w:=by
 exact jb
theorem KD (e:MapEntry) (k j:Int) (he:e.key = .int .i64 k):∀ (l:List MapEntry) (i:Nat),Instr.findNow (.int .i64) (.int .i64 j) l i = some none → Instr.findNow (.int .i64) (.int .i64 j) (l ++ [e]) i = if j = k then some (some (i + l.length,e.val)) else some none
 | [],i,_ => by
  show Instr.findNow _ _ [e] i = _
  unfold Instr.findNow
  rw [he]
  by_cases hjk:j = k
  ·subst hjk; simp [Instr.sameNow]
  ·have hb:(j == k) = false:=by simp [hjk]
   simp [Instr.sameNow,Instr.findNow,hjk,hb]
 | x :: l,i,h => by
  show Instr.findNow _ _ (x :: (l ++ [e])) i = _
  unfold Instr.findNow at h ⊢
  cases hs:Instr.sameNow (.int .i64) (.int .i64 j) x.key with
  | none => rw [hs] at h; cases h
  | some b =>
   rw [hs] at h
   cases b
   ·simp only at h ⊢
    rw [KD e k j he l (i + 1) h]
    by_cases hjk:j = k
    ·rw [if_pos hjk,if_pos hjk,List.length_cons,show i + 1 + l.length = i + (l.length + 1) by omega]
    ·rw [if_neg hjk,if_neg hjk]
   ·cases h
theorem MN (e:MapEntry) (k j:Int):∀ (l:List MapEntry) (i:Nat) (y:Nat × Value),Instr.findNow (.int .i64) (.int .i64 j) l i = some (some y) → Instr.findNow (.int .i64) (.int .i64 j) (l ++ [e]) i = some (some y)
 | [],i,y,h => by cases h
 | x :: l,i,y,h => by
  show Instr.findNow _ _ (x :: (l ++ [e])) i = _
  unfold Instr.findNow at h ⊢
  cases hs:Instr.sameNow (.int .i64) (.int .i64 j) x.key with
  | none => rw [hs] at h; cases h
  | some b =>
   rw [hs] at h
   cases b
   ·exact MN e k j l (i + 1) y h
   ·exact h
theorem Mp.put {w:World} {r x:Nat} {f:Int → Option Nat} (h:Mp w r f) (k:Int) (hk:f k = none) :
  ∃ w1,(Instr.mapUpdate 165 (.map (some r)) (.int .i64 k) (.pointer (some ⟨x,0,none⟩))).run Try.prog w = .ok () w1 ∧ Mp w1 r (fun j => if j = k then some x else f j) ∧ Steps.At r w w1:=by
 obtain ⟨es,clk,hb,hf⟩:=h
 have h0:found es k = some none:=by
  rcases hf k with ⟨_,h2⟩ | ⟨y,i,h1,_⟩
  ·exact h2
  ·rw [hk] at h1; cases h1
 have h0':=h0
 unfold found at h0
 refine ⟨{ w with heap:=w.heap.setIfInBounds r (.map (QU es clk k (.pointer (some ⟨x,0,none⟩))) (clk + 1)) },?_,⟨QU es clk k (.pointer (some ⟨x,0,none⟩)),clk + 1,?_,fun j => ?_⟩,?_⟩
 ·simp [Instr.mapUpdate,run_underlying Try.underlying165,MapKept.run_getObj_map hb,MapKept.run_checkKey Try.underlying3 (IV k),MapKept.run_findKey Try.underlying3 h0,MapKept.run_setObj_map _ hb,Result.andThen,QU]
 ·have:=AU hb
  simp [Array.getElem?_setIfInBounds,this]
 ·rcases hf j with ⟨h1,h2⟩ | ⟨y,i,h1,h2⟩
  ·have h3:=KD { key:=.int .i64 k,val:=.pointer (some ⟨x,0,none⟩),born:=clk } k j rfl es.toList 0 h2
   by_cases hjk:j = k
   ·subst hjk
    refine .inr ⟨x,0 + es.toList.length,if_pos rfl,?_⟩
    unfold found QU
    rw [Array.toList_push,h3,if_pos rfl]
    rfl
   ·refine .inl ⟨(if_neg hjk).trans h1,?_⟩
    unfold found QU
    rw [Array.toList_push,h3,if_neg hjk]
  ·have hjk:j ≠ k:=fun e => by rw [e,hk] at h1; cases h1
   refine .inr ⟨y,i,(if_neg hjk).trans h1,?_⟩
   unfold found QU
   rw [Array.toList_push]
   exact MN _ k j es.toList 0 _ h2
 ·refine ⟨rfl,rfl,rfl,by simp,fun j hj => ?_⟩
  show (w.heap.setIfInBounds r _)[j]? = _
  rw [Array.getElem?_setIfInBounds]
  rw [if_neg (fun e => hj e.symm)]
theorem Mp.kept {w w':World} {r:Nat} {f:Int → Option Nat} {S:Nat → Prop} (h:Mp w r f) (hk:Kept w w' S) (hS:¬ S r):Mp w' r f:=by
 obtain ⟨es,clk,hb,hf⟩:=h
 exact ⟨es,clk,(hk.2 r (AU hb) hS).trans hb,hf⟩
theorem Mp.lt {w:World} {r:Nat} {f:Int → Option Nat} (h:Mp w r f):r < w.heap.size:=by
 obtain ⟨es,clk,hb,hf⟩:=h
 exact AU hb
end Go.Proofs.Ytnkkgofpifhoeaa.Pe
end
section
namespace Go.Proofs.Ytnkkgofpifhoeaa.Pe
open Go.RowKit Go.Proofs.Ytnkkgofpifhoeaa.Base Go.Proofs.Ytnkkgofpifhoeaa.Steps Go.Proofs.Ytnkkgofpifhoeaa.Lk Go.Proofs.Ytnkkgofpifhoeaa.Ch Go.Proofs.Ytnkkgofpifhoeaa.Num Go.Proofs.YtnkkgofpifhoeaaW.PrintWords
structure Pn where
 e:Lk
 quiet:Int
 echo:Int
structure Ps where
 ticks:Int
 me:Nat
 nodes:Nat
 pn:Nat → Pn
 evs:List (Int × Bool)
def Ps.has (X:Ps) (k:Nat):Prop:=1 ≤ k ∧ k ≤ X.nodes ∧ k ≠ X.me
def Ps.set (X:Ps) (k:Nat) (x:Pn):Ps:={ X with pn:=fun j => if j = k then x else X.pn j }
theorem Ps.Eb (X:Ps) (k:Nat) (x:Pn):(X.set k x).pn k = x:=if_pos rfl
theorem Ps.Ec (X:Ps) {k j:Nat} (h:j ≠ k) (x:Pn):(X.set k x).pn j = X.pn j:=if_neg h
def Ps.CV (X:Ps) (k:Nat) (L:Lk):Ps:=X.set k { X.pn k with e:=L }
structure Ad where
 r:Nat
 gc:Nat
 gx:Nat → Nat
 ge:Nat → Nat
def Ps.at_ (X:Ps) (a:Ad) (k:Int):Option Nat:=if 1 ≤ k ∧ k ≤ X.nodes ∧ k ≠ X.me then some (a.gx k.toNat) else none
theorem Ps.IX {X:Ps} {a:Ad} {k:Nat} (h:X.has k):X.at_ a k = some (a.gx k):=by
 unfold Ps.at_
 have h1:=h.1
 have h2:=h.2.1
 have h3:=h.2.2
 rw [if_pos ⟨by omega,by omega,by omega⟩]
 rfl
theorem Ps.Ja {X:Ps} {a:Ad} {k:Int} (h:¬ (1 ≤ k ∧ k ≤ X.nodes ∧ k ≠ X.me)):X.at_ a k = none:=if_neg h
def Ps.fix (X:Ps) (a:Ad) (gp k:Nat):Prop:=k = gp ∨ k = a.r ∨ ∃ j,X.has j ∧ k = a.gx j
def UE:Kd (Int × Bool):=Kd.pair (Kd.int .i64) Kd.bool
def mrow (X:Ps) (n:Int) (a:Ad) (v:Value):Array Value:=#[.int .u32 X.ticks,.int .i64 X.me,.int .i64 n,.map (some a.r),.pointer (some ⟨a.gc,0,none⟩),v]
def IB (ge:Nat) (x:Pn):Array Value:=#[.pointer (some ⟨ge,0,none⟩),.int .i64 x.quiet,.int .u32 x.echo]
def Iz (w:World) (B gc:Nat) (o:Nat → Prop):Prop:=∃ rc p q es clk,Gj w gc rc p q es clk ∧ p < 18446744073709551616 ∧ q < 18446744073709551616 ∧ Ei p q = true ∧ o gc ∧ o rc ∧ B ≤ gc ∧ B ≤ rc ∧ ∀ x ∈ es.toList,MapKept.IsKey (.int .i64) x.key
theorem Iz.kept {w w':World} {B gc:Nat} {o S:Nat → Prop} (h:Iz w B gc o) (hk:Kept w w' S) (hS:∀ k,o k → ¬ S k):Iz w' B gc o:=by
 obtain ⟨rc,p,q,es,clk,h1,h2,h3,h4,h5,h6,h7⟩:=h
 exact ⟨rc,p,q,es,clk,⟨Ah h1.blk hk (hS _ h5),(hk.2 rc (AU h1.map) (hS _ h6)).trans h1.map,h1.ne⟩,h2,h3,h4,h5,h6,h7⟩
theorem Iz.mono {w:World} {B gc:Nat} {o o':Nat → Prop} (h:Iz w B gc o) (hm:∀ k,o k → o' k):Iz w B gc o':=by
 obtain ⟨rc,p,q,es,clk,h1,h2,h3,h4,h5,h6,h7⟩:=h
 exact ⟨rc,p,q,es,clk,h1,h2,h3,h4,hm _ h5,hm _ h6,h7⟩
structure BX (w:World) (B gp:Nat) (n:Int) (a:Ad) (own:Nat → Nat → Prop) (X:Ps) (v:Value):Prop where
 blk:w.heap[gp]? = some (.cells (mrow X n a v) 169 (0,0))
 map:Mp w a.r (X.at_ a)
 pk:∀ k,X.has k → w.heap[a.gx k]? = some (.cells (IB (a.ge k) (X.pn k)) 172 (0,0))
 e:∀ k,X.has k → Lk.End w B (own (k + 1)) (a.ge k) (X.pn k).e
 ev:UE.R 99 w B (own 0) v X.evs
 ch:Iz w B a.gc (own 1)
 low:∀ k,X.fix a gp k → B ≤ k
 inj:∀ i j,X.has i → X.has j → a.gx i = a.gx j → i = j
 apart:∀ i k,own i k → ¬ X.fix a gp k
 DY:∀ i j k,own i k → own j k → i = j
 lt:∀ i k,own i k → k < w.heap.size
def grow (own:Nat → Nat → Prop) (i:Nat) (w w':World):Nat → Nat → Prop:=fun j k => own j k ∨ j = i ∧ w.heap.size ≤ k ∧ k < w'.heap.size
def Al (X:Ps) (a:Ad) (gp:Nat) (own:Nat → Nat → Prop) (k:Nat):Prop:=X.fix a gp k ∨ ∃ i,own i k
section
variable {w w':World} {B gp:Nat} {n:Int} {a:Ad} {own:Nat → Nat → Prop} {X:Ps} {v:Value} (h:BX w B gp n a own X v)
include h
theorem BX.hB:B ≤ w.heap.size:=Nat.le_trans (h.low gp (.inl rfl)) (Nat.le_of_lt (AU h.blk))
theorem BX.MO:∀ k,X.fix a gp k → k < w.heap.size:=fun k hk => by
 rcases hk with rfl | rfl | ⟨j,hj,rfl⟩
 ·exact AU h.blk
 ·exact h.map.lt
 ·exact AU (h.pk j hj)
theorem BX.Ux:∀ k,Al X a gp own k → k < w.heap.size:=fun k hk => hk.elim (h.MO k) (fun ⟨i,hi⟩ => h.lt i k hi)
theorem BX.WR:gp ≠ a.r:=fun he => by
 obtain ⟨es,clk,hb,_⟩:=h.map
 have h1:=h.blk
 rw [he,hb] at h1
 cases h1
theorem BX.YE {k:Nat} (hk:X.has k):a.gx k ≠ a.r:=fun he => by
 obtain ⟨es,clk,hb,_⟩:=h.map
 have h1:=h.pk k hk
 rw [he,hb] at h1
 cases h1
theorem BX.Su {k:Nat} (hk:X.has k):a.gx k ≠ gp:=fun he => by
 have h1:=h.pk k hk
 rw [he,h.blk] at h1
 injection h1 with h1
 injection h1 with _ h1 _
 cases h1
theorem BX.kept {S:Nat → Prop} (hk:Kept w w' S) (hS:∀ k,Al X a gp own k → ¬ S k):BX w' B gp n a own X v :=
 ⟨Ah h.blk hk (hS _ (.inl (.inl rfl))),h.map.kept hk (hS _ (.inl (.inr (.inl rfl)))),fun k hx => Ah (h.pk k hx) hk (hS _ (.inl (.inr (.inr ⟨k,hx,rfl⟩)))),fun k hx => (h.e k hx).kept hk (fun j hj => hS j (.inr ⟨_,hj⟩)),Kd.BJ h.ev hk (fun j hj => hS j (.inr ⟨_,hj⟩)),h.ch.kept hk (fun j hj => hS j (.inr ⟨_,hj⟩)),h.low,h.inj,h.apart,h.DY,fun i k hi => Nat.lt_of_lt_of_le (h.lt i k hi) hk.1⟩
theorem BX.sub (hb:Below w.heap.size w w'):BX w' B gp n a own X v:=h.kept (Kept.of_below hb (fun _ => False)) (fun _ _ x => x)
theorem FZ (i:Nat):∀ b c k,grow own i w w' b k → grow own i w w' c k → b = c:=by
 intro b c k hb hc
 rcases hb with hb | hb <;> rcases hc with hc | hc
 ·exact h.DY b c k hb hc
 ·have:=h.lt b k hb; omega
 ·have:=h.lt c k hc; omega
 ·omega
theorem Jb (i:Nat):∀ b k,grow own i w w' b k → ¬ X.fix a gp k:=by
 intro b k hb hx
 rcases hb with hb | hb
 ·exact h.apart b k hb hx
 ·have:=h.MO k hx; omega
theorem Fj (i:Nat) (hs:w.heap.size ≤ w'.heap.size):∀ b k,grow own i w w' b k → k < w'.heap.size:=by
 intro b k hb
 rcases hb with hb | hb
 ·have:=h.lt b k hb; omega
 ·exact hb.2.2
theorem BX.col {i:Nat} {X':Ps} (hk:Kept w w' (own i)) (hm:X'.ticks = X.ticks ∧ X'.me = X.me ∧ X'.nodes = X.nodes) (hp:∀ k,X.has k → IB (a.ge k) (X'.pn k) = IB (a.ge k) (X.pn k))
  (he:∀ k,X.has k → Lk.End w' B (grow own i w w' (k + 1)) (a.ge k) (X'.pn k).e) (hv:UE.R 99 w' B (grow own i w w' 0) v X'.evs) (hc:Iz w' B a.gc (grow own i w w' 1)):BX w' B gp n a (grow own i w w') X' v:=by
 have hh:∀ k,X'.has k ↔ X.has k:=fun k => by unfold Ps.has; rw [hm.2.1,hm.2.2]
 have hf:∀ k,X'.fix a gp k ↔ X.fix a gp k:=fun k => by unfold Ps.fix; simp only [hh]
 have hat:X'.at_ a = X.at_ a:=by funext k; unfold Ps.at_; rw [hm.2.1,hm.2.2]
 refine ⟨?_,?_,fun k hx => ?_,fun k hx => he k ((hh k).1 hx),hv,hc,fun k hx => h.low k ((hf k).1 hx),fun i j hi hj => h.inj i j ((hh i).1 hi) ((hh j).1 hj),fun b k hb hx => Jb h i b k hb ((hf k).1 hx),FZ h i,Fj h i hk.1⟩
 ·rw [show mrow X' n a v = mrow X n a v by unfold mrow; rw [hm.1,hm.2.1]]
  exact Ah h.blk hk (fun hx => h.apart i _ hx (.inl rfl))
 ·rw [hat]
  exact h.map.kept hk (fun hx => h.apart i _ hx (.inr (.inl rfl)))
 ·rw [hp k ((hh k).1 hx)]
  exact Ah (h.pk k ((hh k).1 hx)) hk (fun hy => h.apart i _ hy (.inr (.inr ⟨k,(hh k).1 hx,rfl⟩)))
theorem BX.turn {k:Nat} (hx:X.has k) {L:Lk} (ht:DD w B (own (k + 1)) (a.ge k) L w'):BX w' B gp n a (grow own (k + 1) w w') (X.CV k L) v:=by
 have hk:=ht.2.1
 refine h.col hk ⟨rfl,rfl,rfl⟩ (fun j hj => ?_) (fun j hj => ?_) (Kd.Az (Kd.BJ h.ev hk (fun i hi hy => by have:=h.DY 0 (k + 1) i hi hy; omega)) (fun _ hy => .inl hy)) ((h.ch.kept hk (fun i hi hy => by have:=h.DY 1 (k + 1) i hi hy; have:=hx.1; omega)).mono (fun _ hy => .inl hy))
 ·by_cases hjk:j = k
  ·subst hjk; unfold Ps.CV; rw [Ps.Eb]; rfl
  ·unfold Ps.CV; rw [Ps.Ec X hjk]
 ·by_cases hjk:j = k
  ·subst hjk
   unfold Ps.CV
   rw [Ps.Eb]
   exact ht.1.mono (fun i hi => hi.elim .inl (fun hn => .inr ⟨rfl,hn⟩))
  ·unfold Ps.CV
   rw [Ps.Ec X hjk]
   exact ((h.e j hj).kept hk (fun i hi hy => by have:=h.DY (j + 1) (k + 1) i hi hy; omega)).mono (fun _ hy => .inl hy)
theorem BX.YF (hk:Kept w w' (own 1)) (hc:Iz w' B a.gc (fun k => own 1 k ∨ w.heap.size ≤ k ∧ k < w'.heap.size)):BX w' B gp n a (grow own 1 w w') X v :=
 h.col hk ⟨rfl,rfl,rfl⟩ (fun _ _ => rfl) (fun j hj => ((h.e j hj).kept hk (fun i hi hy => by have:=h.DY (j + 1) 1 i hi hy; have:=hj.1; omega)).mono (fun _ hy => .inl hy)) (Kd.Az (Kd.BJ h.ev hk (fun i hi hy => by have:=h.DY 0 1 i hi hy; omega)) (fun _ hy => .inl hy)) (hc.mono (fun i hi => hi.elim .inl (fun hn => .inr ⟨rfl,hn⟩)))
theorem BX.WS {k:Nat} (hx:X.has k) {x:Pn} (he:x.e = (X.pn k).e) (hA:Steps.At (a.gx k) w w') (hb:w'.heap[a.gx k]? = some (.cells (IB (a.ge k) x) 172 (0,0))):BX w' B gp n a own (X.set k x) v:=by
 have hk:Kept w w' (fun j => j = a.gx k):=⟨Nat.le_of_eq hA.size.symm,fun i _ hs => hA.block i hs⟩
 have hne:∀ i j,own i j → ¬ j = a.gx k:=fun i j hi hj => h.apart i j hi (.inr (.inr ⟨k,hx,hj⟩))
 refine ⟨Ah h.blk hk (fun e => h.Su hx e.symm),h.map.kept hk (fun e => h.YE hx e.symm),fun j hj => ?_,fun j hj => ?_,Kd.BJ h.ev hk (hne 0),h.ch.kept hk (hne 1),h.low,h.inj,h.apart,h.DY,fun i j hi => Nat.lt_of_lt_of_le (h.lt i j hi) hk.1⟩
 ·by_cases hjk:j = k
  ·subst hjk; rw [Ps.Eb]; exact hb
  ·rw [Ps.Ec X hjk]; exact Ah (h.pk j hj) hk (fun e => hjk (h.inj j k hj hx e))
 ·by_cases hjk:j = k
  ·subst hjk; rw [Ps.Eb,he]; exact (h.e j hj).kept hk (hne _)
  ·rw [Ps.Ec X hjk]; exact (h.e j hj).kept hk (hne _)
theorem BX.puts {X':Ps} {v':Value} (hm:X'.me = X.me ∧ X'.nodes = X.nodes ∧ X'.pn = X.pn) (hA:Steps.At gp w w') (hb:w'.heap[gp]? = some (.cells (mrow X' n a v') 169 (0,0))) (hv:UE.R 99 w B (own 0) v' X'.evs):BX w' B gp n a own X' v':=by
 have hk:Kept w w' (fun j => j = gp):=⟨Nat.le_of_eq hA.size.symm,fun i _ hs => hA.block i hs⟩
 have hne:∀ i j,own i j → ¬ j = gp:=fun i j hi hj => h.apart i j hi (.inl hj)
 have hh:∀ k,X'.has k ↔ X.has k:=fun k => by unfold Ps.has; rw [hm.1,hm.2.1]
 have hf:∀ k,X'.fix a gp k ↔ X.fix a gp k:=fun k => by unfold Ps.fix; simp only [hh]
 have hat:X'.at_ a = X.at_ a:=by funext k; unfold Ps.at_; rw [hm.1,hm.2.1]
 refine ⟨hb,hat ▸ h.map.kept hk (fun e => h.WR e.symm),fun k hx => ?_,fun k hx => ?_,Kd.BJ hv hk (hne 0),h.ch.kept hk (hne 1),fun k hx => h.low k ((hf k).1 hx),fun i j hi hj => h.inj i j ((hh i).1 hi) ((hh j).1 hj),fun b k hb hx => h.apart b k hb ((hf k).1 hx),h.DY,fun i j hi => Nat.lt_of_lt_of_le (h.lt i j hi) hk.1⟩
 ·rw [hm.2.2]; exact Ah (h.pk k ((hh k).1 hx)) hk (h.Su ((hh k).1 hx))
 ·rw [hm.2.2]; exact (h.e k ((hh k).1 hx)).kept hk (hne _)
theorem BX.news {v':Value} {l:List (Int × Bool)} (hk:Kept w w' (own 0)) (hv:UE.R 99 w' B (fun k => own 0 k ∨ w.heap.size ≤ k) v' l):BX (w'.setCell ⟨gp,5,none⟩ v') B gp n a (grow own 0 w w') { X with evs:=l } v':=by
 have hk2:Kept w' (w'.setCell ⟨gp,5,none⟩ v') (fun j => j = gp):=Kept.setCell (S:=fun j => j = gp) (Kept.refl w' _) (p:=⟨gp,5,none⟩) (.inl rfl) v'
 have hne:∀ i j,own i j → ¬ j = gp:=fun i j hi hj => h.apart i j hi (.inl hj)
 have hz:=hk2.1
 have hb1:=Ah h.blk hk (fun hx => h.apart 0 _ hx (.inl rfl))
 refine ⟨AQ hb1 5 v' rfl,(h.map.kept hk (fun hx => h.apart 0 _ hx (.inr (.inl rfl)))).kept hk2 (fun e => h.WR e.symm),fun k hx => ?_,fun k hx => ?_,?_,?_,h.low,h.inj,Jb h 0,FZ h 0,fun b k hb => Nat.lt_of_lt_of_le (Fj h 0 hk.1 b k hb) hz⟩
 ·exact Ah (Ah (h.pk k hx) hk (fun hy => h.apart 0 _ hy (.inr (.inr ⟨k,hx,rfl⟩)))) hk2 (h.Su hx)
 ·exact (((h.e k hx).kept hk (fun i hi hy => by have:=h.DY (k + 1) 0 i hi hy; omega)).kept hk2 (hne _)).mono (fun _ hy => .inl hy)
 ·refine Kd.Az (Kd.BJ (Kd.CG hv) hk2 (fun k hy he => ?_)) (fun k hy => hy.1.elim .inl (fun hn => .inr ⟨rfl,hn,hy.2.2.1⟩))
  subst he
  rcases hy.1 with hy1 | hy1
  ·exact hne 0 _ hy1 rfl
  ·have:=AU h.blk; omega
 ·exact ((h.ch.kept hk (fun i hi hy => by have:=h.DY 1 0 i hi hy; omega)).kept hk2 (hne 1)).mono (fun _ hy => .inl hy)
end
end Go.Proofs.Ytnkkgofpifhoeaa.Pe
end
