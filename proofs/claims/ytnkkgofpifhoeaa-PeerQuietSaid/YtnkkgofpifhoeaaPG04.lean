/- What the laws of a pair are proved with: links and pairs in memory, what their methods do, what a pair keeps to (part 4). -/
import Derived.Test.YtnkkgofpifhoeaaPG03
import Derived.Laws.Externs
set_option linter.unusedSimpArgs false
set_option linter.unusedVariables false
set_option maxRecDepth 100000
set_option maxHeartbeats 16000000
section
namespace Go.Proofs.Ytnkkgofpifhoeaa.Pk
open Go.RowKit Go.Proofs.Ytnkkgofpifhoeaa.Base Go.Proofs.YtnkkgofpifhoeaaW.PrintWords Go.Proofs.YtnkkgofpifhoeaaW.PrintLast
@[go_sem] theorem Vp (n:Int) (w:World):(callFunc 61 #[.int .u64 n]).run Try.prog w = .ok (.value (.float .f64 n.toNat)) w:=by
 rw [run_callFunc_extern (P:=Try.prog) (f:=61) (fn:=Try.f61) (e:=Extern.MathFloatBits.float64frombits) (by kernel_rfl) (by kernel_rfl) rfl (by kernel_rfl) (by rfl)]
 rfl
@[go_sem] theorem Xr (n:Nat) (w:World):(callFunc 65 #[.float .f64 n]).run Try.prog w = .ok (.value (.int .u64 n)) w:=by
 rw [run_callFunc_extern (P:=Try.prog) (f:=65) (fn:=Try.f65) (e:=Extern.MathFloatBits.float64bits) (by kernel_rfl) (by kernel_rfl) rfl (by kernel_rfl) (by rfl)]
 rfl
theorem wrap_u64 (n:Int):IntKind.u64.wrap n = n % 18446744073709551616:=by simp [IntKind.wrap,IntKind.bits,IntKind.signed]
theorem Og (x y:Int):0 ≤ Go.bits .or .u64 x y ∧ Go.bits .or .u64 x y < 18446744073709551616:=by
 have:∀ z:Int,0 ≤ IntKind.u64.wrap z ∧ IntKind.u64.wrap z < 18446744073709551616:=fun z => by rw [wrap_u64]; omega
 exact this _
theorem NC (l:List Int) (a:Int) (h0:0 ≤ a) (h1:a < 18446744073709551616):0 ≤ numOf a l ∧ numOf a l < 18446744073709551616:=by
 induction l generalizing a with
 | nil => exact ⟨h0,h1⟩
 | cons c l ih =>
  have hb:=Og (IntKind.u64.wrap (a * 256)) (IntKind.u64.wrap c)
  exact ih _ hb.1 hb.2
theorem Oh (l:List Int):0 ≤ FN l ∧ FN l < 18446744073709551616:=NC _ 0 (by decide) (by decide)
theorem QH (l:List Int):(FN l).toNat < 18446744073709551616:=by
 have:=Oh l
 omega
def Ii (a:Int) (l:List Int):Int:=l.foldl (fun n c => (n * 256) % 18446744073709551616 + c) a
theorem wraps_u64 (n:Int) (h₀:0 ≤ n) (h₁:n < 2 ^ 64):IntKind.u64.wrap n = n:=by rw [wrap_u64]; omega
theorem TR (a c:Int) (h0:0 ≤ c) (h1:c < 256):Go.bits .or .u64 (IntKind.u64.wrap (a * 256)) (IntKind.u64.wrap c) = (a * 256) % 18446744073709551616 + c:=by
 have hw:IntKind.u64.wrap c = c:=wraps_u64 c h0 (by omega)
 rw [hw,wrap_u64]
 exact bits_join .u64 64 (by decide) wraps_u64 8 _ _ (by omega) (by omega) (by omega) h0 (by omega) (by omega)
theorem JA (l:List Int) (a:Int) (h:∀ c ∈ l,0 ≤ c ∧ c < 256):numOf a l = Ii a l:=by
 induction l generalizing a with
 | nil => rfl
 | cons c l ih =>
  have hc:=h c List.mem_cons_self
  show numOf (Go.bits .or .u64 (IntKind.u64.wrap (a * 256)) (IntKind.u64.wrap c)) l = Ii ((a * 256) % 18446744073709551616 + c) l
  rw [TR a c hc.1 hc.2]
  exact ih _ fun x hx => h x (List.mem_cons_of_mem _ hx)
theorem GR (x:Int):IntKind.u32.wrap x = x % 4294967296:=by go_num
def Df (e:Int) (cs:Array Value):Array Value:=if e = 0 then cs else #[.int .i64 0,.int .u32 0,.int .u32 0,.int .u32 0,.int .u32 0,.int .u32 0,.int .u32 0,.int .u32 0,.complex .f64 0 0,.slice none 0 0]
def Ll (cs:Value → Array Value) (ck:Int) (l:List Int) (w:World) (e:Ending) (w':World):Prop:=∃ v,e = .returned (.tuple #[.agg (Df ck (cs v)),.int .i64 ck]) ∧ (Kd.int .u8).R 5 w' w.heap.size (fun _ => True) v l ∧ Below w.heap.size w w'
end Go.Proofs.Ytnkkgofpifhoeaa.Pk
end
section
namespace Go.Proofs.Ytnkkgofpifhoeaa.Pk
open Go.RowKit Go.Proofs.Ytnkkgofpifhoeaa.OG Go.Proofs.Ytnkkgofpifhoeaa.Base Go.Proofs.Ytnkkgofpifhoeaa.Num Go.Proofs.YtnkkgofpifhoeaaW.PrintWords Go.Proofs.YtnkkgofpifhoeaaW.PrintLast
def Bv (l:List Int):Prop:=∀ c ∈ l,0 ≤ c ∧ c < 256
theorem Bv.take {l:List Int} (h:Bv l) (n:Nat):Bv (l.take n):=fun c hc => h c (List.mem_of_mem_take hc)
theorem Bv.drop {l:List Int} (h:Bv l) (n:Nat):Bv (l.drop n):=fun c hc => h c (List.mem_of_mem_drop hc)
theorem Bv.at {l:List Int} (h:Bv l) (k:Nat) (hk:k < l.length):0 ≤ rd l (k:Int) ∧ rd l (k:Int) < 256:=by
 refine h _ ?_
 unfold rd
 rw [Int.toNat_natCast,List.getD_eq_getElem?_getD,List.getElem?_eq_getElem hk]
 exact List.getElem_mem hk
end Go.Proofs.Ytnkkgofpifhoeaa.Pk
end
section
namespace Go.Proofs.Ytnkkgofpifhoeaa.Pk
open Go.RowKit Go.Proofs.Ytnkkgofpifhoeaa.Base Go.Proofs.YtnkkgofpifhoeaaW.PrintWords Go.Proofs.YtnkkgofpifhoeaaW.PrintLast
theorem Gn (w:World):(Instr.build 27 #[]).run Try.prog w = .ok (.agg #[.int .i64 0,.int .u32 0,.int .u32 0,.int .u32 0,.int .u32 0,.int .u32 0,.int .u32 0,.int .u32 0,.complex .f64 0 0,.slice none 0 0]) w:=by kernel_rfl
theorem Gp (w:World) (v:Value):(Instr.alloc 27 true v).run Try.prog w = .ok (.pointer (some ⟨w.heap.size,0,none⟩)) (w.alloc (.cells #[.int .i64 0,.int .u32 0,.int .u32 0,.int .u32 0,.int .u32 0,.int .u32 0,.int .u32 0,.int .u32 0,.complex .f64 0 0,.slice none 0 0] 27)):=by kernel_rfl
theorem Au {w:World} {a:Addr} {v:Value} (h:w.cell? a = some v) (o:Obj):(w.alloc o).cell? a = some v:=(World.cell?_alloc_lt _ _ _ (World.block_lt_of_cell? _ _ h)).trans h
end Go.Proofs.Ytnkkgofpifhoeaa.Pk
end
section
namespace Go.Proofs.Ytnkkgofpifhoeaa.Pk
open Go.RowKit Go.Proofs.Ytnkkgofpifhoeaa.OG Go.Proofs.Ytnkkgofpifhoeaa.Num Go.Proofs.Ytnkkgofpifhoeaa.Base Go.Proofs.YtnkkgofpifhoeaaW.PrintWords Go.Proofs.YtnkkgofpifhoeaaW.PrintLast
structure BJ where
 kind:Int
 mine:Int
 AL:Int
 yours:Int
 seq:Int
 AX:Int
 stamp:Int
 echo:Int
 zr:Nat
 zi:Nat
 body:List Int
def BJ.zero:BJ:=⟨0,0,0,0,0,0,0,0,0,0,[]⟩
def JB (p:BJ) (v:Value):Array Value:=#[.int .i64 p.kind,.int .u32 p.mine,.int .u32 p.AL,.int .u32 p.yours,.int .u32 p.seq,.int .u32 p.AX,.int .u32 p.stamp,.int .u32 p.echo,.complex .f64 p.zr p.zi,v]
def BJ.code (p:BJ):Int:=Ah p.kind p.mine p.AL p.yours p.seq p.AX p.stamp p.echo p.zr p.zi p.body.length
def at4 (l:List Int) (a:Nat):Int:=IntKind.u32.wrap (Ii 0 ((l.drop a).take 4))
def at8 (l:List Int) (a:Nat):Nat:=(Ii 0 ((l.drop a).take 8)).toNat
def TT (l:List Int):BJ:=⟨1,at4 l 1,at4 l 5,at4 l 9,IntKind.u32.wrap (rd l 13),0,0,0,0,0,[]⟩
def TU (l:List Int):BJ:=⟨2,at4 l 1,at4 l 5,at4 l 9,at4 l 13,at4 l 17,0,0,0,0,l.drop 21⟩
def TY (l:List Int):BJ:=⟨3,at4 l 1,at4 l 5,at4 l 9,0,at4 l 13,0,0,0,0,[]⟩
def Tc (l:List Int):BJ:=⟨4,at4 l 1,at4 l 5,at4 l 9,0,at4 l 13,at4 l 17,at4 l 21,at8 l 25,at8 l 33,[]⟩
def Ef (l:List Int):BJ:=if rd l 0 = 1 then TT l else if rd l 0 = 2 then TU l else if rd l 0 = 3 then TY l else Tc l
def least (k:Int):Nat:=if k = 1 then 14 else if k = 2 then 22 else if k = 3 then 17 else 41
def most (k:Int):Nat:=if k = 1 then 14 else if k = 2 then 1021 else if k = 3 then 17 else 41
def Dh (l:List Int):Int:=if l.length = 0 then 103 else if rd l 0 < 1 ∨ 4 < rd l 0 then 100 else if l.length < least (rd l 0) then 103 else if most (rd l 0) < l.length then 102 else (Ef l).code
def Jr (l:List Int):BJ:=if Dh l = 0 then Ef l else BJ.zero
def Bf (l:List Int) (w:World) (e:Ending) (w':World):Prop:=∃ v,e = .returned (.tuple #[.agg (JB (Jr l) v),.int .i64 (Dh l)]) ∧ (Kd.int .u8).R 5 w' w.heap.size (fun _ => True) v (Jr l).body ∧ Below w.heap.size w w'
theorem ND:JB BJ.zero (.slice none 0 0) = #[.int .i64 0,.int .u32 0,.int .u32 0,.int .u32 0,.int .u32 0,.int .u32 0,.int .u32 0,.int .u32 0,.complex .f64 0 0,.slice none 0 0]:=rfl
theorem Bf.bad {l:List Int} {w w':World} {e:Ending} {code:Int} (hd:Dh l = code) (hc:code ≠ 0) (h:e = .returned (.tuple #[.agg #[.int .i64 0,.int .u32 0,.int .u32 0,.int .u32 0,.int .u32 0,.int .u32 0,.int .u32 0,.int .u32 0,.complex .f64 0 0,.slice none 0 0],.int .i64 code]) ∧ Below w.heap.size w w'):Bf l w e w':=by
 have hp:Jr l = BJ.zero:=by rw [Jr,if_neg (by rw [hd]; exact hc)]
 refine ⟨.slice none 0 0,?_,?_,h.2⟩
 ·rw [hp,ND,hd]
  exact h.1
 ·rw [hp]
  exact Kd.Cc _ _ _ _ _
theorem G9 (p:BJ) (v:Value) (code:Int):Df code (JB p v) = if code = 0 then JB p v else #[.int .i64 0,.int .u32 0,.int .u32 0,.int .u32 0,.int .u32 0,.int .u32 0,.int .u32 0,.int .u32 0,.complex .f64 0 0,.slice none 0 0]:=rfl
theorem Bf.flat {l:List Int} {w w':World} {e:Ending} (p:BJ) (hp:Ef l = p) (hd:Dh l = p.code) (hb:p.body = []) (h:e = .returned (.tuple #[.agg (Df p.code (JB p (.slice none 0 0))),.int .i64 p.code]) ∧ Below w.heap.size w w'):Bf l w e w':=by
 by_cases hc:p.code = 0
 ·have hq:Jr l = p:=by rw [Jr,hd,if_pos hc,hp]
  refine ⟨.slice none 0 0,?_,?_,h.2⟩
  ·rw [hq,hd,h.1,G9,if_pos hc]
  ·rw [hq,hb]
   exact Kd.Cc _ _ _ _ _
 ·refine Bf.bad hd hc ⟨?_,h.2⟩
  rw [h.1,G9,if_neg hc]
theorem Bf.long {l:List Int} {w w':World} {e:Ending} (p:BJ) (hp:Ef l = p) (hd:Dh l = p.code) (h:Ll (JB p) p.code p.body w e w'):Bf l w e w':=by
 obtain ⟨v,he,hR,hB⟩:=h
 by_cases hc:p.code = 0
 ·have hq:Jr l = p:=by rw [Jr,hd,if_pos hc,hp]
  refine ⟨v,?_,?_,hB⟩
  ·rw [hq,hd,he,G9,if_pos hc]
  ·rw [hq]
   exact hR
 ·refine Bf.bad hd hc ⟨?_,hB⟩
  rw [he,G9,if_neg hc]
theorem Vq (l:List Int) (a:Nat) (h:Bv l):numOf 0 ((l.drop a).take 4) = Ii 0 ((l.drop a).take 4):=JA _ _ ((h.drop a).take 4)
theorem Vr (l:List Int) (a:Nat) (h:Bv l):numOf 0 ((l.drop a).take 8) = Ii 0 ((l.drop a).take 8):=JA _ _ ((h.drop a).take 8)
theorem Vs (l:List Int) (a:Nat) (h:Bv l) (hl:a < l.length):numOf 0 ((l.drop a).take 1) = rd l (a:Int):=by
 rw [JA _ _ ((h.drop a).take 1)]
 have e:(l.drop a).take 1 = [rd l (a:Int)]:=by
  rw [List.drop_eq_getElem_cons hl]
  unfold rd
  rw [Int.toNat_natCast,List.getD_eq_getElem?_getD,List.getElem?_eq_getElem hl]
  rfl
 rw [e]
 simp [Ii]
end Go.Proofs.Ytnkkgofpifhoeaa.Pk
end
