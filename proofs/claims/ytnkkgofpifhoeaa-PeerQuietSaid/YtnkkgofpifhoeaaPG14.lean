/- What the laws of a pair are proved with: links and pairs in memory, what their methods do, what a pair keeps to (part 14). -/
import Derived.Test.YtnkkgofpifhoeaaPG13
import Derived.Scope
import Derived.Lib.Hide
import Derived.WalkMore
import Derived.ScopeJumps
set_option linter.unusedSimpArgs false
set_option linter.unusedVariables false
set_option maxRecDepth 100000
set_option maxHeartbeats 16000000
section
namespace Go.Proofs.Ytnkkgofpifhoeaa.Lk
open Go.RowKit Go.Proofs.Ytnkkgofpifhoeaa.Base Go.Proofs.Ytnkkgofpifhoeaa.Steps Go.Proofs.YtnkkgofpifhoeaaW.PrintWords Go.Proofs.YtnkkgofpifhoeaaW.PrintLast
def BU (L:Lk) (p:BJ):Bool:=decide (p.AL = L.own ∧ p.yours = L.token)
theorem DV {w:World} {B g:Nat} {Af Ac:Nat → Prop} {L:Lk} {q o:Value} (h:At w B Af Ac g L q o) (p:BJ) (b:Value):Calls Try.prog 77 #[.pointer (some ⟨g,0,none⟩),.agg #[.int .i64 p.kind,.int .u32 p.mine,.int .u32 p.AL,.int .u32 p.yours,.int .u32 p.seq,.int .u32 p.AX,.int .u32 p.stamp,.int .u32 p.echo,.complex .f64 p.zr p.zi,b]] w fun e w' => e = .returned (.bool (BU L p)) ∧ Below w.heap.size w w':=by
 have hbl:=(Below.refl w.heap.size w).alloc (Nat.le_refl _) (.cells #[.int .i64 p.kind,.int .u32 p.mine,.int .u32 p.AL,.int .u32 p.yours,.int .u32 p.seq,.int .u32 p.AX,.int .u32 p.stamp,.int .u32 p.echo,.complex .f64 p.zr p.zi,b] 27)
 have h1:=h.below hbl
 generalize hw:w.alloc (.cells #[.int .i64 p.kind,.int .u32 p.mine,.int .u32 p.AL,.int .u32 p.yours,.int .u32 p.seq,.int .u32 p.AX,.int .u32 p.stamp,.int .u32 p.echo,.complex .f64 p.zr p.zi,b] 27) = w1 at *
 have hcb:=heap_alloc_new w (.cells #[.int .i64 p.kind,.int .u32 p.mine,.int .u32 p.AL,.int .u32 p.yours,.int .u32 p.seq,.int .u32 p.AX,.int .u32 p.stamp,.int .u32 p.echo,.complex .f64 p.zr p.zi,b] 27)
 rw [hw] at hcb
 have hk0:w1.cell? ⟨g,0,none⟩ = some (.int .u32 L.own):=(AA h1.blk 0).trans rfl
 have hk2:w1.cell? ⟨g,2,none⟩ = some (.int .u32 L.token):=(AA h1.blk 2).trans rfl
 have hp2:w1.cell? ⟨w.heap.size,2,none⟩ = some (.int .u32 p.AL):=(AA hcb 2).trans rfl
 have hp3:w1.cell? ⟨w.heap.size,3,none⟩ = some (.int .u32 p.yours):=(AA hcb 3).trans rfl
 have HB:=Lib.hid hbl
 clear h h1 hcb hbl
 unfold BU
 generalize L.own = lo at *
 generalize L.token = lt at *
 by_cases h1:p.AL = lo
 ·have hd:decide (p.AL = lo) = true:=by simp [h1]
  have he:(p.AL == lo) = true:=by simp [h1]
  clear h1
  go_enter Try.func77,Try.ntmps77
  go_wp2_with fail
  go_quiet (fail)
  go_wp2
  go_ret
  have h1:p.AL = lo:=by simpa using hd
  refine ⟨?_,by first | exact HB.out | exact BH HB.out _ | exact Aj HB.out⟩
  simp only [h1,true_and]
  first | rfl | (congr 1; simp [h1]; done) | (congr 2; by_cases h2:p.yours = lt <;> simp [h2])
 ·have hd:decide (p.AL = lo) = false:=by simp [h1]
  have he:(p.AL == lo) = false:=by simp [h1]
  clear h1
  go_enter Try.func77,Try.ntmps77
  go_wp2_with fail
  go_quiet (fail)
  go_wp2
  go_ret
  have h1:¬ p.AL = lo:=by simpa using hd
  refine ⟨?_,by first | exact HB.out | exact BH HB.out _ | exact Aj HB.out⟩
  simp [h1]
def Dj (L:Lk) (AL mine:Int):Int:=if AL < L.AL then -1 else if AL = L.AL then (if mine < L.yours then -1 else if mine = L.yours then 0 else 1) else 1
theorem C9 {w:World} {B g:Nat} {Af Ac:Nat → Prop} {L:Lk} {q o:Value} (h:At w B Af Ac g L q o) (AL mine:Int):Calls Try.prog 76 #[.pointer (some ⟨g,0,none⟩),.int .u32 AL,.int .u32 mine] w fun e w' => e = .returned (.int .i64 (Dj L AL mine)) ∧ w = w':=by
 have hc3:w.cell? ⟨g,3,none⟩ = some (.int .u32 L.AL):=(AA h.blk 3).trans rfl
 have hc4:w.cell? ⟨g,4,none⟩ = some (.int .u32 L.yours):=(AA h.blk 4).trans rfl
 clear h
 unfold Dj
 generalize L.AL = lb at *
 generalize L.yours = ly at *
 by_cases h1:AL < lb
 ·rw [if_pos h1]
  go_enter Try.func76,Try.ntmps76
  go_wp2
  all_goals (go_ret; exact ⟨rfl,rfl⟩)
 ·rw [if_neg h1]
  by_cases h2:AL = lb
  ·subst h2
   rw [if_pos rfl]
   by_cases h3:mine < ly
   ·rw [if_pos h3]
    go_enter Try.func76,Try.ntmps76
    go_wp2
    all_goals (go_ret; exact ⟨rfl,rfl⟩)
   ·rw [if_neg h3]
    by_cases h4:mine = ly
    ·subst h4
     rw [if_pos rfl]
     go_enter Try.func76,Try.ntmps76
     go_wp2
     all_goals (go_ret; exact ⟨rfl,rfl⟩)
    ·rw [if_neg h4]
     go_enter Try.func76,Try.ntmps76
     go_wp2
     all_goals (go_ret; exact ⟨rfl,rfl⟩)
  ·rw [if_neg h2]
   go_enter Try.func76,Try.ntmps76
   go_wp2
   all_goals (go_ret; exact ⟨rfl,rfl⟩)
theorem Ot {w:World} {B g:Nat} {Af Ac:Nat → Prop} {L:Lk} {q o:Value} (h:At w B Af Ac g L q o):Calls Try.prog 32 #[.pointer (some ⟨g,0,none⟩)] w fun e w' => e = .returned o ∧ At w' B Af (fun _ => False) g { L with out:=[] } q (.slice none 0 0) ∧ pkt.R 27 w' B Ac o L.out ∧ Go.Proofs.Ytnkkgofpifhoeaa.Steps.At g w w':=by
 obtain ⟨A,c,ho⟩:=Kd.Am h.out
 have X9:w.cell? ⟨g,11,none⟩ = some (.slice A L.out.length c):=(AA h.blk 11).trans (by rw [ho]; rfl)
 have HO:=Lib.hid ho
 have H:=Lib.hid h
 clear h ho
 go_enter Try.func32,Try.ntmps32
 go_wp2_with (first | ((with_reducible refine gate_ (.store 53 (.tmp 12) (.const (.slice none 0 0))) rfl ?_); (refine AY (fun wz => At wz B Af (fun _ => False) g { L with out:=[] } q (.slice none 0 0) ∧ Go.Proofs.Ytnkkgofpifhoeaa.Steps.At g w wz) rfl rfl ⟨_,(by have hz1:World.cell? _ ⟨g,11,none⟩ = some _:=(AA H.out.blk 11).trans rfl; have hz2:=AB H.out.blk 11; first | (go_simp; done) | (go_simp; rfl)),H.out.put 11 _ rfl H.out.queue (Kd.Cc _ _ _ _ _) (fun _ _ hf => hf) (fun k hk => H.out.old k (hk.elim (fun x => .inl x) (fun f => False.elim f))),Steps.At.set (Steps.At.refl g w) _ _⟩ (fun Bl hF => ?_)); (have K1:=Lib.hid hF); (clear hF)))
 all_goals (go_ret; exact ⟨by rw [HO.out]; rfl,K1.out.1,Kd.Jn H.out.out (fun k hk _ => K1.out.2.block k (H.out.old k (.inr hk)).2),K1.out.2⟩)
structure TS (w:World) (B:Nat) (S:Nat → Prop) (g:Nat) (pc:Array Value) (Af Ac okb:Nat → Prop) (L:Lk) (q o:Value) (hd up dn:Bool) (vb:Value) (body:List Int) (wz:World):Prop where
 at_:At wz B Af Ac g L q o
 pb:wz.heap[w.heap.size]? = some (.cells pc 27 (0,0))
 tb:wz.heap[w.heap.size + 1]? = some (.cells #[.bool hd,.bool up,.bool dn,vb] 56 (0,0))
 kept:Kept w wz S
 below:Below B w wz
 far:∀ k,Af k ∨ Ac k → (S k ∧ k < w.heap.size) ∨ w.heap.size + 2 ≤ k
 gS:S g
 YD:g < w.heap.size
 Et:(Kd.int .u8).R 5 wz B okb vb body
 okb:∀ k,okb k → w.heap.size + 2 ≤ k ∧ k < wz.heap.size ∧ ¬ Af k ∧ ¬ Ac k
theorem MB (A:Option Addr) (n c k:Nat) (hk:k ≤ n) (hc:n ≤ c) (W:World):(Instr.slice 45 (.slice A n c) (some (.int .u32 (k:Int))) none none).run Try.prog W = .ok (.slice (if c = k then A else A.map (·.add (k * bytes.sz))) (n - k) (c - k)) W:=by
 have hu:Try.prog.underlying 45 = some (.slice (Try.prog.elem 45)):=by kernel_rfl
 have h1:(0:Int) ≤ k:=by omega
 have h2:(k:Int) ≤ n:=by omega
 have e:=run_slice_l (P:=Try.prog) W 45 A n c hu IntKind.u32 (k:Int) h1 h2
 have hs:(sizeOf (Try.prog.elem 45)).run Try.prog W = .ok 1 W:=by
  have:Try.prog.elem 45 = 22:=by kernel_rfl
  rw [this]
  obtain ⟨i0,hi0,_,hsz,_⟩:=info_parts info22
  go_simp
 rw [e,hs]
 rfl
def BD (L:Lk):Lk:={ L with expected:=IntKind.u32.wrap (L.expected + 1) }
def Cj (L:Lk) (k:Nat):Lk:={ L with queue:=L.queue.drop k,base:=IntKind.u32.wrap (L.base + k),sent:=L.sent - k,idle:=0 }
def MC (L:Lk):BJ:=⟨3,L.token,L.AL,L.yours,0,L.expected,0,0,0,0,[]⟩
theorem Jv (x:Int):IntKind.u32.wrap x = x % 4294967296:=rfl
theorem wrap32 (x:Int):0 ≤ IntKind.u32.wrap x ∧ IntKind.u32.wrap x < 4294967296:=by rw [Jv]; omega
theorem Jg {L:Lk} (h:L.Ok):(BD L).Ok:=⟨h.own,h.phase,h.token,h.AL,h.yours,h.queue,h.rows,h.sent,h.base,wrap32 _,h.idle,h.out⟩
theorem JC {L:Lk} (h:L.Ok) {k:Nat} (hk:(k:Int) ≤ L.sent):(Cj L k).Ok:=by
 have:=h.sent
 have:=h.queue
 refine ⟨h.own,h.phase,h.token,h.AL,h.yours,by show (L.queue.drop k).length ≤ 64; simp; omega,fun r hr => h.rows r (List.mem_of_mem_drop hr),?_,wrap32 _,h.expected,by show 0 ≤ (0:Int) ∧ (0:Int) ≤ 1000; omega,h.out⟩
 show 0 ≤ L.sent - k ∧ L.sent - k ≤ ((L.queue.drop k).length:Int) ∧ L.sent - k ≤ 8
 simp
 omega
structure BJ.Jw (p:BJ):Prop where
 mine:0 ≤ p.mine ∧ p.mine < 4294967296
 AL:0 ≤ p.AL ∧ p.AL < 4294967296
 yours:0 ≤ p.yours ∧ p.yours < 4294967296
 seq:0 ≤ p.seq ∧ p.seq < 4294967296
 AX:0 ≤ p.AX ∧ p.AX < 4294967296
 zr:p.zr < 18446744073709551616
 zi:p.zi < 18446744073709551616
theorem Jh {L:Lk} (h:L.Ok) {b y:Int} (hb:0 ≤ b ∧ b < 4294967296) (hy:0 ≤ y ∧ y < 4294967296) (k:Bool):({ L with AL:=b,yours:=y,known:=k }:Lk).Ok :=
 ⟨h.own,h.phase,h.token,hb,hy,h.queue,h.rows,h.sent,h.base,h.expected,h.idle,h.out⟩
theorem NM {L:Lk} (h:L.Ok) {b:Int} (hb:0 ≤ b ∧ b ≤ 2):({ L with phase:=b }:Lk).Ok :=
 ⟨h.own,hb,h.token,h.AL,h.yours,h.queue,h.rows,h.sent,h.base,h.expected,h.idle,h.out⟩
def Ei (w:World) (B:Nat) (S:Nat → Prop) (g:Nat) (L:Lk) (hd up dn:Bool) (body:List Int) (e:Ending) (w':World):Prop :=
 ∃ vb okb,e = .returned (.tuple #[.agg #[.bool hd,.bool up,.bool dn,vb],.int .i64 0]) ∧ (Kd.int .u8).R 5 w' B okb vb body ∧ (∀ k,okb k → w.heap.size ≤ k ∧ k < w'.heap.size) ∧
  End w' B (fun k => S k ∨ (w.heap.size ≤ k ∧ k < w'.heap.size ∧ ¬ okb k)) g L ∧ Kept w w' S ∧ Below B w w'
section
variable {w wz:World} {B g:Nat} {S Af Ac okb:Nat → Prop} {pc:Array Value} {L:Lk} {q o vb:Value} {hd up dn:Bool} {body:List Int}
theorem TS.start (h:At w B Af Ac g L q o) (ho:∀ k,holds Af Ac g k → S k) (hB:B ≤ w.heap.size) (hb:Below (w.heap.size + 2) ((w.alloc (.cells pc 27)).alloc (.cells #[.bool false,.bool false,.bool false,.slice none 0 0] 56)) wz) :
  TS w B S g pc Af Ac (fun _ => False) L q o false false false (.slice none 0 0) [] wz:=by
 have hb0:Below w.heap.size w ((w.alloc (.cells pc 27)).alloc (.cells #[.bool false,.bool false,.bool false,.slice none 0 0] 56)):=((Below.refl _ _).alloc (Nat.le_refl _) _).alloc (by simp) _
 have hb1:Below w.heap.size w wz:=hb0.trans (hb.mono (by omega))
 have hs:(w.alloc (.cells pc 27)).heap.size = w.heap.size + 1:=by simp
 refine ⟨h.below hb1,?_,?_,Kept.of_below hb1 _,hb1.mono hB,fun k hk => .inl ⟨ho k (hk.elim .inl (fun x => .inr (.inl x))),(h.old k hk).1⟩,ho g (.inr (.inr rfl)),AU h.blk,Kd.Cc _ _ _ _ _,fun k hk => hk.elim⟩
 ·refine (hb.block w.heap.size (by omega)).trans ?_
  refine Eq.trans (b:=(w.alloc (.cells pc 27)).heap[w.heap.size]?) ?_ (heap_alloc_new w _)
  exact Below.heap_alloc _ _ _ (by omega)
 ·refine (hb.block (w.heap.size + 1) (by omega)).trans ?_
  have:=heap_alloc_new (w.alloc (.cells pc 27)) (.cells #[.bool false,.bool false,.bool false,.slice none 0 0] 56)
  rwa [hs] at this
variable (h:TS w B S g pc Af Ac okb L q o hd up dn vb body wz)
include h
theorem TS.size:w.heap.size + 2 ≤ wz.heap.size:=by have:=AU h.tb; omega
theorem TS.sub {w2:World} (hB:B ≤ w.heap.size) (hb:Below wz.heap.size wz w2):TS w B S g pc Af Ac okb L q o hd up dn vb body w2:=by
 have hs:=h.size
 exact ⟨h.at_.below hb,(hb.block _ (by omega)).trans h.pb,(hb.block _ (by omega)).trans h.tb,h.kept.below hb,h.below.trans (hb.mono (by omega)),h.far,h.gS,h.YD,Kd.BI h.Et (Kept.of_below hb (fun _ => False)) (fun _ _ hf => hf),fun k hk => ⟨(h.okb k hk).1,Nat.lt_of_lt_of_le (h.okb k hk).2.1 hb.size,(h.okb k hk).2.2⟩⟩
theorem TS.drewN (hB:B ≤ w.heap.size) (n:Nat):TS w B S g pc Af Ac okb L q o hd up dn vb body (wz.drewN n):=h.sub hB (BH (Below.refl _ _) n)
theorem TS.drew (hB:B ≤ w.heap.size):TS w B S g pc Af Ac okb L q o hd up dn vb body wz.drew:=h.sub hB (Aj (Below.refl _ _))
theorem TS.YE:∀ k,holds Af Ac g k → k ≠ w.heap.size + 1 ∧ k ≠ w.heap.size:=fun k hk => by
 have:=h.YD
 rcases hk with hk | hk | hk
 ·rcases h.far k (.inl hk) with x | x <;> omega
 ·rcases h.far k (.inr hk) with x | x <;> omega
 ·omega
theorem TS.Ip {w2:World} {hd' up' Zt:Bool} {kE:Value} {YF:Nat → Prop} {body':List Int} (hB:B ≤ w.heap.size) (hat:Go.Proofs.Ytnkkgofpifhoeaa.Steps.At (w.heap.size + 1) wz w2) (hc:w2.heap[w.heap.size + 1]? = some (.cells #[.bool hd',.bool up',.bool Zt,kE] 56 (0,0)))
  (hR:(Kd.int .u8).R 5 wz B YF kE body') (Zu:∀ k,YF k → w.heap.size + 2 ≤ k ∧ k < wz.heap.size ∧ ¬ Af k ∧ ¬ Ac k):TS w B S g pc Af Ac YF L q o hd' up' Zt kE body' w2:=by
 have hs:=hat.size
 have hk:Kept wz w2 (fun k => k = w.heap.size + 1):=EE hat
 refine ⟨h.at_.kept hk (fun k hh => (h.YE k hh).1),(hat.block _ (by omega)).trans h.pb,hc,h.kept.DT hk (fun k hk => .inr (by omega)),hat.below h.below (by omega),h.far,h.gS,h.YD,Kd.BI hR hk (fun k hk => by have:=(Zu k hk).1; omega),fun k hk => ?_⟩
 rw [hs]
 exact Zu k hk
theorem TS.EY {hd' up' Zt:Bool} (hB:B ≤ w.heap.size) (i:Nat) (u:Value) (e:(#[Value.bool hd,Value.bool up,Value.bool dn,vb]:Array Value).setIfInBounds i u = #[.bool hd',.bool up',.bool Zt,vb]):TS w B S g pc Af Ac okb L q o hd' up' Zt vb body (wz.setCell ⟨w.heap.size + 1,i,none⟩ u) :=
 h.Ip hB (Steps.At.set (Steps.At.refl _ _) i u) (AQ h.tb i u e) h.Et h.okb
theorem TS.WA {w2:World} {Gv:Nat → Prop} {L':Lk} {q':Value} (hB:B ≤ w.heap.size) (hat:Go.Proofs.Ytnkkgofpifhoeaa.Steps.At g wz w2) (ha:At w2 B Gv Ac g L' q' o) (hq:∀ k,Gv k → Af k):TS w B S g pc Gv Ac okb L' q' o hd up dn vb body w2:=by
 have hk:Kept wz w2 (fun k => k = g):=EE hat
 have hg:=h.YD
 refine ⟨ha,(hat.block _ (by omega)).trans h.pb,(hat.block _ (by omega)).trans h.tb,h.kept.DT hk (fun k hk => .inl (hk ▸ h.gS)),hat.below h.below h.at_.low,fun k hk => h.far k (hk.elim (fun x => .inl (hq k x)) .inr),h.gS,h.YD,Kd.BI h.Et hk (fun k hk => by have:=(h.okb k hk).1; omega),fun k hk => ?_⟩
 rw [hat.size]
 exact ⟨(h.okb k hk).1,(h.okb k hk).2.1,fun hx => (h.okb k hk).2.2.1 (hq k hx),(h.okb k hk).2.2.2⟩
theorem TS.Dz {L':Lk} (hB:B ≤ w.heap.size) (i:Nat) (u:Value) (e:(row L q o).setIfInBounds i u = row L' q o) (hq:L'.queue = L.queue) (ho:L'.out = L.out):TS w B S g pc Af Ac okb L' q o hd up dn vb body (wz.setCell ⟨g,i,none⟩ u) :=
 h.WA hB (Steps.At.set (Steps.At.refl _ _) i u) (h.at_.F6 i u e hq ho) (fun _ x => x)
theorem TS.cut {A6 A7:Option Addr} {c6 qn kn:Nat} (hB:B ≤ w.heap.size) (hq:q = .slice A6 qn c6) (hk:kn ≤ L.queue.length) (hA:A7 = (if c6 = kn then A6 else A6.map (·.add (kn * bytes.sz)))) :
  TS w B S g pc Af Ac okb { L with queue:=L.queue.drop kn } (.slice A7 (qn - kn) (c6 - kn)) o hd up dn vb body (wz.setCell ⟨g,6,none⟩ (.slice A7 (qn - kn) (c6 - kn))):=by
 subst hq hA
 exact h.WA hB (Steps.At.set (Steps.At.refl _ _) 6 _) (h.at_.put 6 _ rfl (Kd.Xm h.at_.queue hk) h.at_.out h.at_.apart h.at_.old) (fun _ x => x)
theorem TS.grow {w2:World} {v1:Value} {ys:List Int} (hB:B ≤ w.heap.size) (hb:Below wz.heap.size wz w2) (hR:(Kd.int .u8).R 5 w2 B (fun k => wz.heap.size ≤ k) v1 ys):TS w B S g pc Af Ac okb L q o hd up dn vb body w2 ∧
  (Kd.int .u8).R 5 w2 B (fun k => wz.heap.size ≤ k ∧ k < w2.heap.size) v1 ys ∧ ∀ k,(wz.heap.size ≤ k ∧ k < w2.heap.size) → w.heap.size + 2 ≤ k ∧ k < w2.heap.size ∧ ¬ Af k ∧ ¬ Ac k:=by
 have hs:=h.size
 refine ⟨h.sub hB hb,Kd.Az (Kd.CW hR) (fun k hk => ⟨hk.1,hk.2.2.1⟩),fun k hk => ⟨by omega,hk.2,fun hx => ?_,fun hx => ?_⟩⟩
 ·have:=(h.at_.old k (.inl hx)).1; omega
 ·have:=(h.at_.old k (.inr hx)).1; omega
theorem TS.Gx {w2:World} {L':Lk} {q':Value} (hB:B ≤ w.heap.size) (he:BL wz B Af Ac g L' q' w2):∃ Js o',TS w B S g pc Af Js okb L' q' o' hd up dn vb body w2:=by
 obtain ⟨o',a,k1,b1⟩:=he
 have hs:=h.size
 have hs1:=k1.1
 have hg:=h.YD
 refine ⟨_,o',a,?_,?_,h.kept.DT k1 (fun k hk => ?_),h.below.trans b1,fun k hk => ?_,h.gS,h.YD,Kd.BI h.Et k1 (fun k hk hx => ?_),fun k hk => ⟨(h.okb k hk).1,by have:=(h.okb k hk).2.1; omega,(h.okb k hk).2.2.1,fun hx => ?_⟩⟩
 ·exact Ai h.pb k1 (fun hx => (h.YE _ (.inr hx)).2 rfl)
 ·exact Ai h.tb k1 (fun hx => (h.YE _ (.inr hx)).1 rfl)
 ·rcases hk with hk | hk
  ·rcases h.far k (.inr hk) with x | x
   ·exact .inl x.1
   ·exact .inr (by omega)
  ·exact .inl (hk ▸ h.gS)
 ·rcases hk with hk | hk | hk
  ·exact h.far k (.inl hk)
  ·exact h.far k (.inr hk)
  ·exact .inr (by omega)
 ·rcases hx with hx | hx
  ·exact (h.okb k hk).2.2.2 hx
  ·have:=(h.okb k hk).1; omega
 ·rcases hx with hx | hx
  ·exact (h.okb k hk).2.2.2 hx
  ·have:=(h.okb k hk).2.1; omega
theorem TS.ends:Ei w B S g L hd up dn body (.returned (.tuple #[.agg #[.bool hd,.bool up,.bool dn,vb],.int .i64 0])) wz:=by
 refine ⟨vb,okb,rfl,h.Et,fun k hk => ⟨by have:=(h.okb k hk).1; omega,(h.okb k hk).2.1⟩,⟨Af,Ac,q,o,h.at_,fun k hk => ?_⟩,h.kept,h.below⟩
 rcases hk with hk | hk | hk
 ·rcases h.far k (.inl hk) with x | x
  ·exact .inl x.1
  ·exact .inr ⟨by omega,(h.at_.old k (.inl hk)).1,fun hx => (h.okb k hx).2.2.1 hk⟩
 ·rcases h.far k (.inr hk) with x | x
  ·exact .inl x.1
  ·exact .inr ⟨by omega,(h.at_.old k (.inr hk)).1,fun hx => (h.okb k hx).2.2.2 hk⟩
 ·exact .inl (hk ▸ h.gS)
end
end Go.Proofs.Ytnkkgofpifhoeaa.Lk
end
section
namespace Go.Proofs.Ytnkkgofpifhoeaa.Zv
def Jump (P:Program) (c:Code) (Q:Exit → Act → World → Prop):Nat → Exit → Act → World → Prop
 | 0,.goto _,_,_ => False
 | n + 1,.goto l,a,w => ∃ rest,findLabel c l = some rest ∧ rest.wp P (Jump P c Q n) a w
 | _,.normal,a,w => Q .normal a w
 | _,.exit i,a,w => Q (.exit i) a w
 | _,.ret,a,w => Q .ret a w
 | _,.panic ch,a,w => Q (.panic ch) a w
 | _,.outgrown,a,w => Q .outgrown a w
section
variable {P:Program} {a:Act} {w:World} {Q:Exit → Act → World → Prop} {c:Code}
theorem Jump.ret {n:Nat} (h:Q .ret a w):Jump P c Q n .ret a w:=by cases n <;> exact h
theorem Jump.goto {n l:Nat} {C rest:Code} (hc:c = C) (hf:findLabel c l = some rest) (h:rest.wp P (Jump P C Q n) a w):Jump P C Q (n + 1) (.goto l) a w:=by
 subst hc
 exact ⟨rest,hf,h⟩
theorem KT (n:Nat) (h:c.wp P (Jump P c Q n) a w):(Code.scope c).wp P Q a w:=by
 intro b k cs
 have hg:∀ l rest,findLabel c l = some rest → gotoIn l (.inScope c :: k) = some (.code rest :: .inScope c :: k):=by
  intro l rest hf
  simp [gotoIn,hf]
 have key:∀ n (x:Code) a w,x.wp P (Jump P c Q n) a w → ∃ e a' w',Q e a' w' ∧ Arrives P (lone (b.at a (.code x :: .inScope c :: k)) cs w) b k cs e a' w':=by
  intro n
  induction n with
  | zero =>
   intro x a w hx
   obtain ⟨e,a₁,w₁,hq,harr⟩:=hx b (.inScope c :: k) cs
   cases e with
   | normal => exact ⟨.normal,a₁,w₁,hq,Steps.trans harr (.one step_inScope)⟩
   | exit id => exact ⟨.exit id,a₁,w₁,hq,fun k' hk => harr k' (by simp [exitTo,hk])⟩
   | goto l' => exact hq.elim
   | ret => exact ⟨_,a₁,w₁,hq,harr⟩
   | panic ch => exact ⟨_,a₁,w₁,hq,harr⟩
   | outgrown => exact ⟨_,a₁,w₁,hq,harr⟩
  | succ n ih =>
   intro x a w hx
   obtain ⟨e,a₁,w₁,hq,harr⟩:=hx b (.inScope c :: k) cs
   cases e with
   | normal => exact ⟨.normal,a₁,w₁,hq,Steps.trans harr (.one step_inScope)⟩
   | exit id => exact ⟨.exit id,a₁,w₁,hq,fun k' hk => harr k' (by simp [exitTo,hk])⟩
   | goto l' =>
    obtain ⟨rest,hf,hr⟩:=hq
    obtain ⟨e₂,a₂,w₂,hq₂,harr₂⟩:=ih rest a₁ w₁ hr
    exact ⟨e₂,a₂,w₂,hq₂,.of_steps (harr _ (hg l' rest hf)) harr₂⟩
   | ret => exact ⟨_,a₁,w₁,hq,harr⟩
   | panic ch => exact ⟨_,a₁,w₁,hq,harr⟩
   | outgrown => exact ⟨_,a₁,w₁,hq,harr⟩
 obtain ⟨e,a₁,w₁,hq,harr⟩:=key n c a w h
 cases e with
 | normal => exact ⟨.normal,a₁,w₁,hq,.head step_scope harr⟩
 | exit id => exact ⟨.exit id,a₁,w₁,hq,fun k' hk => .head step_scope (harr k' hk)⟩
 | goto l' =>
  refine ⟨.goto l',a₁,w₁,hq,fun k' hk => .head step_scope (harr k' hk)⟩
 | ret => exact ⟨_,a₁,w₁,hq,.of_steps (.one step_scope) harr⟩
 | panic ch => exact ⟨_,a₁,w₁,hq,.of_steps (.one step_scope) harr⟩
 | outgrown => exact ⟨_,a₁,w₁,hq,.of_steps (.one step_scope) harr⟩
theorem Ap (n:Nat) (h:∀ C,RowKit.Hid (c = C) → c.wp P (Jump P C Q n) a w):(Code.scope c).wp P Q a w:=KT n (h c (Lib.hid rfl))
end
end Go.Proofs.Ytnkkgofpifhoeaa.Zv
end
