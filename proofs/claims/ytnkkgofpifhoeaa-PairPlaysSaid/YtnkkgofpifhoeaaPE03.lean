/- What the laws of a pair are proved with: links and pairs in memory, what their methods do, what a pair keeps to (part 3). -/
import Derived.Test.YtnkkgofpifhoeaaPE02
import Derived.Test.YtnkkgofpifhoeaaChecked
import Derived.Lib.Hide
set_option linter.unusedSimpArgs false
set_option linter.unusedVariables false
set_option maxRecDepth 100000
set_option maxHeartbeats 16000000
section
namespace Go.Proofs.Ytnkkgofpifhoeaa.Lk
open Go.RowKit Go.Proofs.Ytnkkgofpifhoeaa.Steps Go.Proofs.YtnkkgofpifhoeaaW.PrintWords
structure Bz where
 kind:Int
 mine:Int
 AB:Int
 yours:Int
 seq:Int
 AV:Int
 stamp:Int
 echo:Int
 zr:Nat
 zi:Nat
 body:List Int
def cx:Kd (Nat × Nat):=Kd.scalar (fun z => .complex .f64 z.1 z.2) (fun _ => rfl)
def MC:Kd Int:=Kd.int .u32
def bytes:Kd (List Int):=Kd.slice 5 (Kd.int .u8)
def pkt:Kd Bz:=Kd.wI (Kd.pair (Kd.int .i64) (Kd.pair MC (Kd.pair MC (Kd.pair MC (Kd.pair MC (Kd.pair MC (Kd.pair MC (Kd.pair MC (Kd.pair cx bytes)))))))))
 (fun p => (p.kind,p.mine,p.AB,p.yours,p.seq,p.AV,p.stamp,p.echo,(p.zr,p.zi),p.body))
def cells (p:Bz) (b:Value):List Value:=[.int .i64 p.kind,.int .u32 p.mine,.int .u32 p.AB,.int .u32 p.yours,.int .u32 p.seq,.int .u32 p.AV,.int .u32 p.stamp,.int .u32 p.echo,.complex .f64 p.zr p.zi,b]
theorem iq:pkt.sz = 10:=rfl
theorem qO:pkt.E = [5]:=rfl
theorem DY {w:World} {base:Nat} {ok:Nat → Prop} {p:Bz} {cs:List Value}:pkt.M w base ok p cs ↔ ∃ b,cs = cells p b ∧ (Kd.int .u8).R 5 w base ok b p.body:=by
 constructor
 ·rintro ⟨_,_,rfl,rfl,_,_,rfl,rfl,_,_,rfl,rfl,_,_,rfl,rfl,_,_,rfl,rfl,_,_,rfl,rfl,_,_,rfl,rfl,_,_,rfl,rfl,_,_,rfl,rfl,b,rfl,h⟩
  exact ⟨b,rfl,h⟩
 ·rintro ⟨b,rfl,h⟩
  exact ⟨_,_,rfl,rfl,_,_,rfl,rfl,_,_,rfl,rfl,_,_,rfl,rfl,_,_,rfl,rfl,_,_,rfl,rfl,_,_,rfl,rfl,_,_,rfl,rfl,_,_,rfl,rfl,b,rfl,h⟩
structure Lk where
 own:Int
 phase:Int
 token:Int
 AB:Int
 yours:Int
 known:Bool
 queue:List (List Int)
 sent:Int
 base:Int
 expected:Int
 idle:Int
 out:List Bz
structure Lk.Ok (L:Lk):Prop where
 own:0 ≤ L.own ∧ L.own < 4294967296
 phase:0 ≤ L.phase ∧ L.phase ≤ 2
 token:0 ≤ L.token ∧ L.token < 4294967296
 AB:0 ≤ L.AB ∧ L.AB < 4294967296
 yours:0 ≤ L.yours ∧ L.yours < 4294967296
 queue:L.queue.length ≤ 64
 rows:∀ r ∈ L.queue,r.length ≤ 1000
 sent:0 ≤ L.sent ∧ L.sent ≤ L.queue.length ∧ L.sent ≤ 8
 base:0 ≤ L.base ∧ L.base < 4294967296
 expected:0 ≤ L.expected ∧ L.expected < 4294967296
 idle:0 ≤ L.idle ∧ L.idle ≤ 1000
 out:L.out.length ≤ 1024
def row (L:Lk) (q o:Value):Array Value:=#[.int .u32 L.own,.int .i64 L.phase,.int .u32 L.token,.int .u32 L.AB,.int .u32 L.yours,.bool L.known,q,.int .i64 L.sent,.int .u32 L.base,.int .u32 L.expected,.int .i64 L.idle,o]
structure At (w:World) (B:Nat) (Ak Aj:Nat → Prop) (g:Nat) (L:Lk) (q o:Value):Prop where
 blk:w.heap[g]? = some (.cells (row L q o) 131 (0,0))
 queue:bytes.Q 22 w B Ak q L.queue
 out:pkt.R 27 w B Aj o L.out
 low:B ≤ g
 apart:∀ k,Ak k → ¬ Aj k
 old:∀ k,Ak k ∨ Aj k → k < w.heap.size ∧ k ≠ g
def holds (Ak Aj:Nat → Prop) (g:Nat):Nat → Prop:=fun k => Ak k ∨ Aj k ∨ k = g
theorem At.kept {w w1:World} {B g:Nat} {Ak Aj S:Nat → Prop} {L:Lk} {q o:Value} (h:At w B Ak Aj g L q o) (hk:Kept w w1 S) (hd:∀ k,holds Ak Aj g k → ¬ S k):At w1 B Ak Aj g L q o :=
 ⟨Ap h.blk hk (hd g (.inr (.inr rfl))),Kd.NL h.queue hk (fun k ho => hd k (.inl ho)),Kd.BJ h.out hk (fun k ho => hd k (.inr (.inl ho))),h.low,h.apart,fun k hk' => ⟨Nat.lt_of_lt_of_le (h.old k hk').1 hk.1,(h.old k hk').2⟩⟩
theorem At.below {w w1:World} {B g:Nat} {Ak Aj:Nat → Prop} {L:Lk} {q o:Value} (h:At w B Ak Aj g L q o) (hb:Below w.heap.size w w1):At w1 B Ak Aj g L q o:=h.kept (Kept.of_below hb (fun _ => False)) (fun _ _ hf => hf)
theorem At.put {w:World} {B g:Nat} {Ak Aj Iz NP:Nat → Prop} {L L':Lk} {q o q' o':Value} (h:At w B Ak Aj g L q o) (i:Nat) (u:Value) (e:(row L q o).setIfInBounds i u = row L' q' o')
  (hq:bytes.Q 22 w B Iz q' L'.queue) (hout:pkt.R 27 w B NP o' L'.out) (hap:∀ k,Iz k → ¬ NP k) (hold:∀ k,Iz k ∨ NP k → k < w.heap.size ∧ k ≠ g):At (w.setCell ⟨g,i,none⟩ u) B Iz NP g L' q' o':=by
 have hk:Kept w (w.setCell ⟨g,i,none⟩ u) (fun k => k = g):=Kept.setCell (S:=fun k => k = g) (Kept.refl w _) (p:=⟨g,i,none⟩) (.inl rfl) u
 exact ⟨Af h.blk i u e,Kd.NL hq hk (fun k ho => (hold k (.inl ho)).2),Kd.BJ hout hk (fun k ho => (hold k (.inr ho)).2),h.low,hap,fun k hk' => ⟨Nat.lt_of_lt_of_le (hold k hk').1 hk.1,(hold k hk').2⟩⟩
theorem At.EP {w:World} {B g:Nat} {Ak Aj:Nat → Prop} {L L':Lk} {q o:Value} (h:At w B Ak Aj g L q o) (i:Nat) (u:Value) (e:(row L q o).setIfInBounds i u = row L' q o) (hq:L'.queue = L.queue) (ho:L'.out = L.out):At (w.setCell ⟨g,i,none⟩ u) B Ak Aj g L' q o :=
 h.put i u e (hq ▸ h.queue) (ho ▸ h.out) h.apart h.old
theorem At.noq {w:World} {B g:Nat} {Ak Aj:Nat → Prop} {L L':Lk} {q o:Value} (h:At w B Ak Aj g L q o) (e:(row L q o).setIfInBounds 6 (.slice none 0 0) = row L' (.slice none 0 0) o) (hq:L'.queue = []) (ho:L'.out = L.out):At (w.setCell ⟨g,6,none⟩ (.slice none 0 0)) B (fun _ => False) Aj g L' (.slice none 0 0) o :=
 h.put 6 _ e (hq ▸ Kd.Xl _ _ _ _ _) (ho ▸ h.out) (fun _ hf => hf.elim) (fun k hk => h.old k (.inr (hk.elim (fun f => False.elim f) (fun x => x))))
end Go.Proofs.Ytnkkgofpifhoeaa.Lk
end
section
namespace Go.Proofs.Ytnkkgofpifhoeaa.Lk
open Go.RowKit Go.Proofs.Ytnkkgofpifhoeaa.Base Go.Proofs.Ytnkkgofpifhoeaa.Steps Go.Proofs.YtnkkgofpifhoeaaW.PrintWords Go.Proofs.YtnkkgofpifhoeaaW.PrintLast
theorem Xp {w:World} {B g:Nat} {Ak Aj:Nat → Prop} {L:Lk} {q o:Value} (h:At w B Ak Aj g L q o):Calls Try.prog 29 #[.pointer (some ⟨g,0,none⟩)] w fun e w' => e = .returned (.int .i64 L.phase) ∧ w = w':=by
 have hc1:w.cell? ⟨g,1,none⟩ = some (.int .i64 L.phase):=(AA h.blk 1).trans rfl
 clear h
 go_enter Try.func29,Try.ntmps29
 go_wp2
 all_goals (go_ret; exact ⟨rfl,rfl⟩)
theorem Xq {w:World} {B g:Nat} {Ak Aj:Nat → Prop} {L:Lk} {q o:Value} (h:At w B Ak Aj g L q o):Calls Try.prog 31 #[.pointer (some ⟨g,0,none⟩)] w fun e w' => e = .returned (.int .i64 L.queue.length) ∧ w = w':=by
 obtain ⟨A,c,hq,hl⟩:=Kd.Gy h.queue
 have hc6:w.cell? ⟨g,6,none⟩ = some (.slice A L.queue.length c):=(AA h.blk 6).trans (by rw [hq]; rfl)
 clear h
 go_enter Try.func31,Try.ntmps31
 go_wp2
 all_goals (go_ret; exact ⟨rfl,rfl⟩)
def newL (own:Int):Lk:=⟨own,0,0,0,0,false,[],0,0,0,0,[]⟩
theorem aW (own:Int) (ho:0 < own ∧ own < 4294967296):(newL own).Ok:=by constructor <;> simp [newL] <;> omega
theorem PY (own:Int) (ho:0 < own ∧ own < 4294967296) (w:World) (B:Nat) (hB:B ≤ w.heap.size):Calls Try.prog 26 #[.int .u32 own] w fun e w' => e = .returned (.tuple #[.pointer (some ⟨w.heap.size,0,none⟩),.int .i64 0]) ∧ At w' B (fun _ => False) (fun _ => False) w.heap.size (newL own) (.slice none 0 0) (.slice none 0 0) ∧ Below w.heap.size w w':=by
 have ho1:¬ own = 0:=by omega
 go_enter Try.func26,Try.ntmps26
 go_wp2
 all_goals go_ret2
 exact ⟨rfl,⟨heap_alloc_new w _,Kd.Xl _ _ _ _ _,Kd.D5 _ _ _ _ _,hB,fun _ h => h.elim,fun k hk => (hk.elim False.elim False.elim)⟩,(Below.refl _ _).alloc (Nat.le_refl _) _⟩
def CB (L:Lk):Lk:={ L with token:=L.token + 1,phase:=1,known:=false,queue:=[],sent:=0,base:=4294967293,expected:=4294967293,idle:=0 }
theorem NQ {L:Lk} (h:L.Ok) (ht:L.token < 4294967295):(CB L).Ok:=by
 have h1:=h.own; have h2:=h.token; have h3:=h.AB; have h4:=h.yours; have h5:=h.out
 constructor <;> simp [CB] <;> omega
theorem Qu {w:World} {B g:Nat} {Ak Aj:Nat → Prop} {L:Lk} {q o:Value} (h:At w B Ak Aj g L q o) (hok:L.Ok) (ht:L.token < 4294967295):Calls Try.prog 72 #[.pointer (some ⟨g,0,none⟩)] w fun e w' => e = .returned (.tuple #[]) ∧ At w' B (fun _ => False) Aj g (CB L) (.slice none 0 0) o ∧ Go.Proofs.Ytnkkgofpifhoeaa.Steps.At g w w':=by
 have hc2:w.cell? ⟨g,2,none⟩ = some (.int .u32 L.token):=(AA h.blk 2).trans rfl
 have ht1:=hok.token
 have K0:=Lib.hid (⟨h,Steps.At.refl g w⟩:At w B Ak Aj g L q o ∧ Go.Proofs.Ytnkkgofpifhoeaa.Steps.At g w w)
 clear h hok
 go_enter Try.func72,Try.ntmps72
 go_wp2_with (first | ((with_reducible refine gate_ (.store 24 (.tmp 8) (.tmp 6)) rfl ?_); (refine AU (fun wz => At wz B Ak Aj g { L with token:=L.token + 1 } q o ∧ Go.Proofs.Ytnkkgofpifhoeaa.Steps.At g w wz) rfl rfl ⟨_,(by have hz1:World.cell? _ ⟨g,2,none⟩ = some _:=(AA K0.out.1.blk 2).trans rfl; have hz2:=AL K0.out.1.blk 2; first | (go_simp; done) | (go_simp; rfl)),K0.out.1.EP 2 _ rfl rfl rfl,Steps.At.set K0.out.2 _ _⟩ (fun Ce hF => ?_)); (have K1:=Lib.hid hF); (clear hF)) | ((with_reducible refine gate_ (.store 3 (.tmp 11) (.const (.int .i64 1))) rfl ?_); (refine AU (fun wz => At wz B Ak Aj g { L with token:=L.token + 1,phase:=1 } q o ∧ Go.Proofs.Ytnkkgofpifhoeaa.Steps.At g w wz) rfl rfl ⟨_,(by have hz1:World.cell? _ ⟨g,1,none⟩ = some _:=(AA K1.out.1.blk 1).trans rfl; have hz2:=AL K1.out.1.blk 1; first | (go_simp; done) | (go_simp; rfl)),K1.out.1.EP 1 _ rfl rfl rfl,Steps.At.set K1.out.2 _ _⟩ (fun BZ hF => ?_)); (have K2:=Lib.hid hF); (clear hF)) | ((with_reducible refine gate_ (.store 4 (.tmp 14) (.const (.bool false))) rfl ?_); (refine AU (fun wz => At wz B Ak Aj g { L with token:=L.token + 1,phase:=1,known:=false } q o ∧ Go.Proofs.Ytnkkgofpifhoeaa.Steps.At g w wz) rfl rfl ⟨_,(by have hz1:World.cell? _ ⟨g,5,none⟩ = some _:=(AA K2.out.1.blk 5).trans rfl; have hz2:=AL K2.out.1.blk 5; first | (go_simp; done) | (go_simp; rfl)),K2.out.1.EP 5 _ rfl rfl rfl,Steps.At.set K2.out.2 _ _⟩ (fun DK hF => ?_)); (have K3:=Lib.hid hF); (clear hF)) | ((with_reducible refine gate_ (.store 45 (.tmp 17) (.const (.slice none 0 0))) rfl ?_); (refine AU (fun wz => At wz B (fun _ => False) Aj g { L with token:=L.token + 1,phase:=1,known:=false,queue:=[] } (.slice none 0 0) o ∧ Go.Proofs.Ytnkkgofpifhoeaa.Steps.At g w wz) rfl rfl ⟨_,(by have hz1:World.cell? _ ⟨g,6,none⟩ = some _:=(AA K3.out.1.blk 6).trans rfl; have hz2:=AL K3.out.1.blk 6; first | (go_simp; done) | (go_simp; rfl)),K3.out.1.noq rfl rfl rfl,Steps.At.set K3.out.2 _ _⟩ (fun EL hF => ?_)); (have K4:=Lib.hid hF); (clear hF)) | ((with_reducible refine gate_ (.store 3 (.tmp 20) (.const (.int .i64 0))) rfl ?_); (refine AU (fun wz => At wz B (fun _ => False) Aj g { L with token:=L.token + 1,phase:=1,known:=false,queue:=[],sent:=0 } (.slice none 0 0) o ∧ Go.Proofs.Ytnkkgofpifhoeaa.Steps.At g w wz) rfl rfl ⟨_,(by have hz1:World.cell? _ ⟨g,7,none⟩ = some _:=(AA K4.out.1.blk 7).trans rfl; have hz2:=AL K4.out.1.blk 7; first | (go_simp; done) | (go_simp; rfl)),K4.out.1.EP 7 _ rfl rfl rfl,Steps.At.set K4.out.2 _ _⟩ (fun Ea hF => ?_)); (have K5:=Lib.hid hF); (clear hF)) | ((with_reducible refine gate_ (.store 24 (.tmp 24) (.const (.int .u32 4294967293))) rfl ?_); (refine AU (fun wz => At wz B (fun _ => False) Aj g { L with token:=L.token + 1,phase:=1,known:=false,queue:=[],sent:=0,base:=4294967293 } (.slice none 0 0) o ∧ Go.Proofs.Ytnkkgofpifhoeaa.Steps.At g w wz) rfl rfl ⟨_,(by have hz1:World.cell? _ ⟨g,8,none⟩ = some _:=(AA K5.out.1.blk 8).trans rfl; have hz2:=AL K5.out.1.blk 8; first | (go_simp; done) | (go_simp; rfl)),K5.out.1.EP 8 _ rfl rfl rfl,Steps.At.set K5.out.2 _ _⟩ (fun Jv hF => ?_)); (have K6:=Lib.hid hF); (clear hF)) | ((with_reducible refine gate_ (.store 24 (.tmp 26) (.const (.int .u32 4294967293))) rfl ?_); (refine AU (fun wz => At wz B (fun _ => False) Aj g { L with token:=L.token + 1,phase:=1,known:=false,queue:=[],sent:=0,base:=4294967293,expected:=4294967293 } (.slice none 0 0) o ∧ Go.Proofs.Ytnkkgofpifhoeaa.Steps.At g w wz) rfl rfl ⟨_,(by have hz1:World.cell? _ ⟨g,9,none⟩ = some _:=(AA K6.out.1.blk 9).trans rfl; have hz2:=AL K6.out.1.blk 9; first | (go_simp; done) | (go_simp; rfl)),K6.out.1.EP 9 _ rfl rfl rfl,Steps.At.set K6.out.2 _ _⟩ (fun Jb hF => ?_)); (have K7:=Lib.hid hF); (clear hF)) | ((with_reducible refine gate_ (.store 3 (.tmp 29) (.const (.int .i64 0))) rfl ?_); (refine AU (fun wz => At wz B (fun _ => False) Aj g { L with token:=L.token + 1,phase:=1,known:=false,queue:=[],sent:=0,base:=4294967293,expected:=4294967293,idle:=0 } (.slice none 0 0) o ∧ Go.Proofs.Ytnkkgofpifhoeaa.Steps.At g w wz) rfl rfl ⟨_,(by have hz1:World.cell? _ ⟨g,10,none⟩ = some _:=(AA K7.out.1.blk 10).trans rfl; have hz2:=AL K7.out.1.blk 10; first | (go_simp; done) | (go_simp; rfl)),K7.out.1.EP 10 _ rfl rfl rfl,Steps.At.set K7.out.2 _ _⟩ (fun Qv hF => ?_)); (have K8:=Lib.hid hF); (clear hF)))
 refine bodyPost_end (results_none rfl _ _ _) rfl ?_
 exact ⟨rfl,K8.out.1,K8.out.2⟩
def emit_ (L:Lk) (p:Bz):Lk:=if L.out.length < 1024 then { L with out:=L.out ++ [p] } else L
theorem PZ {L:Lk} (h:L.Ok) (p:Bz):(emit_ L p).Ok:=by
 unfold emit_
 split
 ·exact ⟨h.own,h.phase,h.token,h.AB,h.yours,h.queue,h.rows,h.sent,h.base,h.expected,h.idle,by simp; omega⟩
 ·exact h
def CJ (w:World) (B:Nat) (Ak Aj:Nat → Prop) (g:Nat) (L:Lk) (q:Value) (w':World):Prop :=
 ∃ o,At w' B Ak (fun k => Aj k ∨ w.heap.size ≤ k ∧ k < w'.heap.size) g L q o ∧ Kept w w' (fun k => Aj k ∨ k = g) ∧ Below B w w'
theorem TK:(Try.prog.info? 27).map (fun i => (i.zero,i.size,i.bytes)) = some (some (.agg #[.int .i64 0,.int .u32 0,.int .u32 0,.int .u32 0,.int .u32 0,.int .u32 0,.int .u32 0,.int .u32 0,.complex .f64 0 0,.slice none 0 0]),10,80):=by kernel_rfl
theorem Xr {w:World} {B:Nat} {CY ok:Nat → Prop} {p:Bz} {cs:List Value} {o:Value} {ps:List Bz} (hM:pkt.M w B CY p cs) (ho:pkt.R 27 w B ok o ps):pkt.M w B (fun k => CY k ∧ some k ≠ o.ownBlock) p cs:=by
 refine pkt.BU (fun k hk => ?_) (pkt.CW hM)
 obtain ⟨h1,_,_,t,ht,c,hc⟩:=hk
 refine ⟨h1,fun he => ?_⟩
 obtain ⟨_,inner,ho2,_⟩:=ho
 obtain ⟨c2,hc2⟩:=FO ho2 k he.symm
 rw [hc] at hc2
 injection hc2 with hc2
 injection hc2 with _ hc2 _
 subst hc2
 rw [qO] at ht
 exact absurd ht (by decide)
theorem At.put' {w:World} {B g:Nat} {Iz NP:Nat → Prop} {L':Lk} {q' o':Value} {cs:Array Value} (hb:w.heap[g]? = some (.cells cs 131 (0,0))) (i:Nat) (u:Value) (e:cs.setIfInBounds i u = row L' q' o')
  (hq:bytes.Q 22 w B Iz q' L'.queue) (hout:pkt.R 27 w B NP o' L'.out) (low:B ≤ g) (hap:∀ k,Iz k → ¬ NP k) (hold:∀ k,Iz k ∨ NP k → k < w.heap.size ∧ k ≠ g):At (w.setCell ⟨g,i,none⟩ u) B Iz NP g L' q' o':=by
 have hk:Kept w (w.setCell ⟨g,i,none⟩ u) (fun k => k = g):=Kept.setCell (S:=fun k => k = g) (Kept.refl w _) (p:=⟨g,i,none⟩) (.inl rfl) u
 exact ⟨Af hb i u e,Kd.NL hq hk (fun k ho => (hold k (.inl ho)).2),Kd.BJ hout hk (fun k ho => (hold k (.inr ho)).2),low,hap,fun k hk' => ⟨Nat.lt_of_lt_of_le (hold k hk').1 hk.1,(hold k hk').2⟩⟩
theorem GM {w:World} {B g:Nat} {Ak Aj CY:Nat → Prop} {L:Lk} {q o:Value} (p:Bz) (b:Value) (h:At w B Ak Aj g L q o) (hok:L.Ok) (hB:B ≤ w.heap.size) (hM:pkt.M w B CY p (cells p b)) (Eg:∀ k,CY k → Aj k) :
  Calls Try.prog 80 #[.pointer (some ⟨g,0,none⟩),.agg #[.int .i64 p.kind,.int .u32 p.mine,.int .u32 p.AB,.int .u32 p.yours,.int .u32 p.seq,.int .u32 p.AV,.int .u32 p.stamp,.int .u32 p.echo,.complex .f64 p.zr p.zi,b]] w fun e w' => e = .returned (.tuple #[]) ∧ CJ w B Ak Aj g (emit_ L p) q w':=by
 obtain ⟨A,c,ho⟩:=Kd.Am h.out
 subst ho
 have hol:=hok.out
 have hb0:Below w.heap.size w (w.alloc (.cells #[.int .i64 p.kind,.int .u32 p.mine,.int .u32 p.AB,.int .u32 p.yours,.int .u32 p.seq,.int .u32 p.AV,.int .u32 p.stamp,.int .u32 p.echo,.complex .f64 p.zr p.zi,b] 27)):=(Below.refl _ _).alloc (Nat.le_refl _) _
 have H1:=Lib.hid (h.below hb0)
 have H0:=Lib.hid h
 have HM:=Lib.hid (Xr hM h.out)
 have HP:=Lib.hid Eg
 have Ob:(w.alloc (.cells #[.int .i64 p.kind,.int .u32 p.mine,.int .u32 p.AB,.int .u32 p.yours,.int .u32 p.seq,.int .u32 p.AV,.int .u32 p.stamp,.int .u32 p.echo,.complex .f64 p.zr p.zi,b] 27)).cell? ⟨g,11,none⟩ = some (.slice A L.out.length c):=(AA H1.out.blk 11).trans rfl
 have hcb:=heap_alloc_new w (.cells #[.int .i64 p.kind,.int .u32 p.mine,.int .u32 p.AB,.int .u32 p.yours,.int .u32 p.seq,.int .u32 p.AV,.int .u32 p.stamp,.int .u32 p.echo,.complex .f64 p.zr p.zi,b] 27)
 have HB0:=Lib.hid hb0
 have V9:=Lib.hid hcb
 clear h hb0 hM Eg hok hcb
 go_enter Try.func80,Try.ntmps80
 go_wp2_with fail
 rotate_left
 ·go_end0
  have hL:emit_ L p = L:=by unfold emit_; rw [if_neg (by omega)]
  rw [hL]
  refine ⟨rfl,.slice A L.out.length c,⟨H1.out.blk,H1.out.queue,Kd.BV H1.out.out (fun _ hk => .inl hk),H1.out.low,fun k hk ho => ho.elim (H1.out.apart k hk) (fun hn => by have:=(H0.out.old k (.inl hk)).1; omega),fun k hk => ?_⟩,Kept.of_below HB0.out _,HB0.out.mono hB⟩
  have hgl:g < w.heap.size:=AQ H0.out.blk
  rcases hk with hk | hk | hk
  ·exact H1.out.old k (.inl hk)
  ·exact H1.out.old k (.inr hk)
  ·exact ⟨hk.2,by omega⟩
 have hL:emit_ L p = { L with out:=L.out ++ [p] }:=by unfold emit_; rw [if_pos (by omega)]
 have hbd:Below w.heap.size w (w.alloc (.cells #[.int .i64 p.kind,.int .u32 p.mine,.int .u32 p.AB,.int .u32 p.yours,.int .u32 p.seq,.int .u32 p.AV,.int .u32 p.stamp,.int .u32 p.echo,.complex .f64 p.zr p.zi,b] 27)).drew:=AZ HB0.out
 have hSS:(w.alloc (.cells #[.int .i64 p.kind,.int .u32 p.mine,.int .u32 p.AB,.int .u32 p.yours,.int .u32 p.seq,.int .u32 p.AV,.int .u32 p.stamp,.int .u32 p.echo,.complex .f64 p.zr p.zi,b] 27)).drew.heap[g]? = some (.cells (row L q (.slice A L.out.length c)) 131 (0,0)) ∧ (w.alloc (.cells #[.int .i64 p.kind,.int .u32 p.mine,.int .u32 p.AB,.int .u32 p.yours,.int .u32 p.seq,.int .u32 p.AV,.int .u32 p.stamp,.int .u32 p.echo,.complex .f64 p.zr p.zi,b] 27)).drew.heap[w.heap.size]? = some (.cells #[.int .i64 p.kind,.int .u32 p.mine,.int .u32 p.AB,.int .u32 p.yours,.int .u32 p.seq,.int .u32 p.AV,.int .u32 p.stamp,.int .u32 p.echo,.complex .f64 p.zr p.zi,b] 27 (0,0)):=⟨H1.out.blk,V9.out⟩
 have hsz0:(w.alloc (.cells #[.int .i64 p.kind,.int .u32 p.mine,.int .u32 p.AB,.int .u32 p.yours,.int .u32 p.seq,.int .u32 p.AV,.int .u32 p.stamp,.int .u32 p.echo,.complex .f64 p.zr p.zi,b] 27)).drew.heap.size = w.heap.size + 1:=by simp [World.drew]
 clear H1 HB0 V9 Ob
 refine BA (n:=11) (S:=fun w' => w'.heap[g]? = some (.cells (row L q (.slice A L.out.length c)) 131 (0,0)) ∧ w'.heap[w.heap.size]? = some (.cells #[.int .i64 p.kind,.int .u32 p.mine,.int .u32 p.AB,.int .u32 p.yours,.int .u32 p.seq,.int .u32 p.AV,.int .u32 p.stamp,.int .u32 p.echo,.complex .f64 p.zr p.zi,b] 27 (0,0))) (ds:=[10]) gz (by kernel_rfl) rfl rfl (hSS) (fun hHeld => ?_)
 generalize (w.alloc (.cells #[.int .i64 p.kind,.int .u32 p.mine,.int .u32 p.AB,.int .u32 p.yours,.int .u32 p.seq,.int .u32 p.AV,.int .u32 p.stamp,.int .u32 p.echo,.complex .f64 p.zr p.zi,b] 27)).drew = w2 at hbd hsz0 hHeld ⊢
 have BB:=Lib.hid hbd
 have OU:=Lib.hid hsz0
 clear hbd hsz0
 refine pu 0 10 nK ?_
 refine pu 1 11 nM ?_
 refine pu 2 12 vg ?_
 refine pu 3 13 vk ?_
 refine tk 4 14 vw hHeld ?_ (hf:=by intro w' s0; have Ob:w'.cell? ⟨g,11,none⟩ = some (.slice A L.out.length c):=(AA s0.1 11).trans rfl; clear s0; go_simp; with_reducible rfl)
 refine tk 5 15 vz hHeld ?_ (hf:=by intro w' s0; have CP:=Try.underlying27; have hc0:w'.cell? ⟨w.heap.size,0,none⟩ = some (.int .i64 p.kind):=(AA s0.2 0).trans rfl; have hc1:w'.cell? ⟨w.heap.size,1,none⟩ = some (.int .u32 p.mine):=(AA s0.2 1).trans rfl; have hc2:w'.cell? ⟨w.heap.size,2,none⟩ = some (.int .u32 p.AB):=(AA s0.2 2).trans rfl; have hc3:w'.cell? ⟨w.heap.size,3,none⟩ = some (.int .u32 p.yours):=(AA s0.2 3).trans rfl; have hc4:w'.cell? ⟨w.heap.size,4,none⟩ = some (.int .u32 p.seq):=(AA s0.2 4).trans rfl; have hc5:w'.cell? ⟨w.heap.size,5,none⟩ = some (.int .u32 p.AV):=(AA s0.2 5).trans rfl; have hc6:w'.cell? ⟨w.heap.size,6,none⟩ = some (.int .u32 p.stamp):=(AA s0.2 6).trans rfl; have Xt:w'.cell? ⟨w.heap.size,7,none⟩ = some (.int .u32 p.echo):=(AA s0.2 7).trans rfl; have hc8:w'.cell? ⟨w.heap.size,8,none⟩ = some (.complex .f64 p.zr p.zi):=(AA s0.2 8).trans rfl; have Bh:w'.cell? ⟨w.heap.size,9,none⟩ = some (b):=(AA s0.2 9).trans rfl; clear s0; go_simp; try rfl)
 refine on 6 (some 16) wB fun K hK => ?_
 refine Es (v:=.slice (some ⟨w2.heap.size,0,none⟩) 1 1) (by rfl) rfl (w1:=w2.alloc (.cells #[.int .i64 p.kind,.int .u32 p.mine,.int .u32 p.AB,.int .u32 p.yours,.int .u32 p.seq,.int .u32 p.AV,.int .u32 p.stamp,.int .u32 p.echo,.complex .f64 p.zr p.zi,b] 27)) ?_ ?_
 ·first | (go_simp; done) | (go_simp; rfl)
 have hb2:=(Below.refl w2.heap.size w2).alloc (Nat.le_refl _) (.cells #[.int .i64 p.kind,.int .u32 p.mine,.int .u32 p.AB,.int .u32 p.yours,.int .u32 p.seq,.int .u32 p.AV,.int .u32 p.stamp,.int .u32 p.echo,.complex .f64 p.zr p.zi,b] 27)
 have HS2:=Lib.hid hHeld
 refine hK.out _ _ ⟨(hb2.block g (AQ hHeld.1)).trans hHeld.1,(hb2.block w.heap.size (AQ hHeld.2)).trans hHeld.2⟩ (fun hHeld => ?_)
 clear hK K
 refine nm 16 ?_
 refine on 7 (some 17) nN fun K hK => ?_
 have hQ2:=H0.out.below BB.out
 have hM2:=Kd.PX HM.out (Kept.of_below BB.out (fun _ => False)) (fun _ _ hf => hf)
 refine Kd.EY pkt (w0:=w) B (by rfl) (.tmp 14) (.tmp 16) 53 27 (.agg #[.int .i64 0,.int .u32 0,.int .u32 0,.int .u32 0,.int .u32 0,.int .u32 0,.int .u32 0,.int .u32 0,.complex .f64 0 0,.slice none 0 0]) 80 rfl Try.underlying53 TK rfl (by decide) (by decide) _ _ p (cells p b) (fun k => Aj k ∨ w.heap.size ≤ k) (fun k => CY k ∧ some k ≠ (Value.slice A L.out.length c).ownBlock) rfl rfl hM2 (fun k hk => ⟨.inl (HP.out k hk.1),hk.2⟩) (fun k hk => .inr (by have:=OU.out; omega)) (Kd.BV hQ2.out (fun _ hk => .inl hk)) (BB.out.mono hB) (by have:=OU.out; omega) (by omega) ?_
 intro o1 w3 hR hbl hg _
 obtain ⟨A1,c1,ho1⟩:=Kd.Am hR
 generalize (L.out ++ [p]).length = n1 at ho1
 subst ho1
 have hown:∀ k,(Value.slice A L.out.length c).ownBlock = some k → Aj k:=H0.out.out.1
 have hK3:Kept w w3 Aj:=Kept.Gi hg (Kept.of_below BB.out Aj) (fun k hk => .inl (hown k hk))
 have iw:w3.heap[g]? = some (.cells (row L q (.slice A L.out.length c)) 131 (0,0)):=Ap H0.out.blk hK3 (fun ho => (H0.out.old g (.inr ho)).2 rfl)
 have qP:w3.heap[w.heap.size]? = some (.cells #[.int .i64 p.kind,.int .u32 p.mine,.int .u32 p.AB,.int .u32 p.yours,.int .u32 p.seq,.int .u32 p.AV,.int .u32 p.stamp,.int .u32 p.echo,.complex .f64 p.zr p.zi,b] 27 (0,0)):=(hg.block w.heap.size (AQ HS2.out.2) (fun he => by have:=(H0.out.old _ (.inr (hown _ he.symm))).1; omega)).trans HS2.out.2
 have Xu:=Lib.hid hK3
 have eY:=Lib.hid iw
 have HR3:=Lib.hid hR
 have FP:=Lib.hid hbl
 have HG3:=Lib.hid hg.size
 clear hR hbl hg hown HS2 hQ2 hM2 hK3 HM HP hHeld
 refine hK.out _ _ ⟨iw,qP⟩ (fun hHeld => ?_)
 clear hK K iw qP
 refine nm 17 ?_
 refine pu 8 18 iD ?_
 refine pu 9 19 iF ?_
 refine la 10 none iG fun K hK => ?_
 have hz1:w3.cell? ⟨g,11,none⟩ = some (.slice A L.out.length c):=(AA eY.out 11).trans rfl
 have hz2:=AL eY.out 11
 refine CG (fun wz => At wz B Ak (fun k => Aj k ∨ w.heap.size ≤ k ∧ k < w3.heap.size) g { L with out:=L.out ++ [p] } q (.slice A1 n1 c1) ∧ wz.heap.size = w3.heap.size ∧ Kept w wz (fun k => Aj k ∨ k = g) ∧ Below B w wz ∧ wz.heap[w.heap.size]? = some (.cells #[.int .i64 p.kind,.int .u32 p.mine,.int .u32 p.AB,.int .u32 p.yours,.int .u32 p.seq,.int .u32 p.AV,.int .u32 p.stamp,.int .u32 p.echo,.complex .f64 p.zr p.zi,b] 27 (0,0))) (by rfl) rfl ⟨_,by first | (go_simp; done) | (go_simp; rfl),?_,?_,?_,?_,?_⟩ (fun w4 hF => ?_)
 ·have hsz:=Xu.out.1
  refine At.put' eY.out 11 _ rfl (Kd.NL H0.out.queue Xu.out (fun k ho => H0.out.apart k ho)) (Kd.BV (Kd.Du HR3.out) (fun k hk => hk.1.elim (fun h => .inl h) (fun h => .inr ⟨h,hk.2.2.1⟩))) H0.out.low (fun k hk ho => ho.elim (H0.out.apart k hk) (fun hn => by have:=(H0.out.old k (.inl hk)).1; omega)) (fun k hk => ?_)
  have hgl:g < w.heap.size:=AQ H0.out.blk
  rcases hk with hk | hk | hk
  ·have:=H0.out.old k (.inl hk); exact ⟨by omega,this.2⟩
  ·have:=H0.out.old k (.inr hk); exact ⟨by omega,this.2⟩
  ·exact ⟨hk.2,by omega⟩
 ·simp [World.setCell]
 ·exact (Xu.out.mono (fun k hk => .inl hk)).setCell (p:=⟨g,11,none⟩) (.inl (.inr rfl)) _
 ·exact FP.out.setCell (p:=⟨g,11,none⟩) H0.out.low _
 ·exact (Below.heap_setCell w3 ⟨g,11,none⟩ _ w.heap.size (by have:=AQ H0.out.blk; show w.heap.size ≠ g; omega)).trans hHeld.2
 have HF:=Lib.hid hF
 clear hF hz1 hz2 hHeld
 refine hK.out _ _ ?_
 clear hK K
 refine BG (by kernel_rfl) ?_
 go_wp2
 go_end0
 have hL:emit_ L p = { L with out:=L.out ++ [p] }:=by unfold emit_; rw [if_pos (by omega)]
 rw [hL]
 refine ⟨rfl,.slice A1 n1 c1,?_,HF.out.2.2.1,HF.out.2.2.2.1⟩
 rw [HF.out.2.1]
 exact HF.out.1
def Bc (L:Lk):Bz:=⟨1,L.token,if L.known then L.AB else 0,if L.known then L.yours else 0,if L.phase = 2 then 1 else 0,0,0,0,0,0,[]⟩
def HB (w0:World) (g r:Nat) (L:Lk) (q o:Value) (mine AB yours seq:Int) (w:World):Prop :=
 w.heap[g]? = some (.cells (row L q o) 131 (0,0)) ∧ w.heap[r]? = some (.cells #[.int .i64 1,.int .u32 mine,.int .u32 AB,.int .u32 yours,.int .u32 seq,.int .u32 0,.int .u32 0,.int .u32 0,.complex .f64 0 0,.slice none 0 0] 27 (0,0)) ∧ Below w0.heap.size w0 w
theorem CJ.from_ {w w2 w':World} {B g:Nat} {Ak Aj:Nat → Prop} {L:Lk} {q:Value} (hq:∀ k,Ak k → k < w.heap.size) (hg:g < w.heap.size) (hb:Below w.heap.size w w2) (hB:B ≤ w.heap.size) (h:CJ w2 B Ak Aj g L q w'):CJ w B Ak Aj g L q w':=by
 obtain ⟨o,h1,h2,h3⟩:=h
 have hs:=hb.size
 refine ⟨o,⟨h1.blk,h1.queue,Kd.BV h1.out (fun k hk => hk.elim (fun h => .inl h) (fun h => .inr ⟨by omega,h.2⟩)),h1.low,fun k hk ho => ?_,fun k hk => ?_⟩,(Kept.of_below hb _).BQ h2 (fun k hk => .inl hk),(hb.mono hB).trans h3⟩
 ·rcases ho with ho | ho
  ·exact h1.apart k hk (.inl ho)
  ·have:=hq k hk; omega
 ·rcases hk with hk | hk | hk
  ·exact h1.old k (.inl hk)
  ·exact h1.old k (.inr (.inl hk))
  ·exact ⟨hk.2,by omega⟩
theorem Xv {w:World} {B g:Nat} {Ak Aj:Nat → Prop} {L:Lk} {q o:Value} (h:At w B Ak Aj g L q o) (hok:L.Ok) (hB:B ≤ w.heap.size) (hkn:L.known = false) (DT:¬ L.phase = 2) :
  Calls Try.prog 73 #[.pointer (some ⟨g,0,none⟩)] w fun e w' => e = .returned (.tuple #[]) ∧ CJ w B Ak Aj g (emit_ L (⟨1,L.token,0,0,0,0,0,0,0,0,[]⟩:Bz)) q w':=by
 have hc2:w.cell? ⟨g,2,none⟩ = some (.int .u32 L.token):=(AA h.blk 2).trans rfl
 have hgl:g < w.heap.size:=AQ h.blk
 have H0:=Lib.hid h
 have OK:=Lib.hid hok
 have iy:=Lib.hid hkn
 have FH:=Lib.hid DT
 clear h hok hkn
 go_enter Try.func73,Try.ntmps73
 go_wp2_with (first | ((with_reducible refine gate_ (.store 27 (.tmp 2) (.tmp 7)) rfl ?_); (refine Ad rfl rfl 27 (.tmp 2) (.tmp 7) rfl w.heap.size _ rfl rfl 27 _ (heap_alloc_new w _) (by kernel_rfl) rfl (by kernel_rfl) ?_); (intro w1 hb1 Hr); (have hbl:=Hr.below ((Below.refl w.heap.size w).alloc (Nat.le_refl _) _) (Nat.le_refl _)); (have HW:=Lib.hid (show HB w g w.heap.size L q o L.token 0 0 0 w1 from ⟨(hbl.block g hgl).trans H0.out.blk,hb1,hbl⟩)); (have hc5:w1.cell? ⟨g,5,none⟩ = some (.bool false):=(AA HW.out.1 5).trans (by rw [← iy.out]; rfl)); (clear hb1 Hr hbl hc2); (have hc1:w1.cell? ⟨g,1,none⟩ = some (.int .i64 L.phase):=(AA HW.out.1 1).trans rfl); (have DT:=FH.out)) | ((with_reducible refine gate_ (.store 24 (.tmp 27) (.const (.int .u32 1))) rfl ?_); (refine AU (fun wz => HB w g w.heap.size L q o L.token 0 0 1 wz) rfl rfl ⟨_,(by have hz1:World.cell? _ ⟨w.heap.size,4,none⟩ = some _:=(AA HW.out.2.1 4).trans rfl; have hz2:=AL HW.out.2.1 4; first | (go_simp; done) | (go_simp; rfl)),(Below.heap_setCell _ ⟨w.heap.size,4,none⟩ _ g (by show g ≠ w.heap.size; omega)).trans HW.out.1,Af HW.out.2.1 4 _ rfl,HW.out.2.2.setCell (p:=⟨w.heap.size,4,none⟩) (Nat.le_refl _) _⟩ (fun w5 hF => ?_)); (have Ih:=Lib.hid hF); (clear hF HW hc1); (have HW:=Ih); (clear Ih)) | ((with_reducible refine AO (N:=29) rfl ?_); (refine KN (fun v wz => v = .agg #[.int .i64 1,.int .u32 L.token,.int .u32 0,.int .u32 0,.int .u32 0,.int .u32 0,.int .u32 0,.int .u32 0,.complex .f64 0 0,.slice none 0 0] ∧ HB w g w.heap.size L q o L.token 0 0 0 wz) rfl ⟨.agg #[.int .i64 1,.int .u32 L.token,.int .u32 0,.int .u32 0,.int .u32 0,.int .u32 0,.int .u32 0,.int .u32 0,.complex .f64 0 0,.slice none 0 0],_,(by have CP:=Try.underlying27; have hd0:World.cell? _ ⟨w.heap.size,0,none⟩ = some (.int .i64 1):=(AA HW.out.2.1 0).trans rfl; have hd1:World.cell? _ ⟨w.heap.size,1,none⟩ = some (.int .u32 L.token):=(AA HW.out.2.1 1).trans rfl; have hd2:World.cell? _ ⟨w.heap.size,2,none⟩ = some (.int .u32 0):=(AA HW.out.2.1 2).trans rfl; have hd3:World.cell? _ ⟨w.heap.size,3,none⟩ = some (.int .u32 0):=(AA HW.out.2.1 3).trans rfl; have hd4:World.cell? _ ⟨w.heap.size,4,none⟩ = some (.int .u32 0):=(AA HW.out.2.1 4).trans rfl; have hd5:World.cell? _ ⟨w.heap.size,5,none⟩ = some (.int .u32 0):=(AA HW.out.2.1 5).trans rfl; have hd6:World.cell? _ ⟨w.heap.size,6,none⟩ = some (.int .u32 0):=(AA HW.out.2.1 6).trans rfl; have hd7:World.cell? _ ⟨w.heap.size,7,none⟩ = some (.int .u32 0):=(AA HW.out.2.1 7).trans rfl; have hd8:World.cell? _ ⟨w.heap.size,8,none⟩ = some (.complex .f64 0 0):=(AA HW.out.2.1 8).trans rfl; have hd9:World.cell? _ ⟨w.heap.size,9,none⟩ = some (.slice none 0 0):=(AA HW.out.2.1 9).trans rfl; first | (go_simp; done) | (go_simp; rfl)),rfl,HW.out⟩ (fun v9 w8 hF => ?_)); (obtain ⟨rfl,hF2⟩:=hF); (have Ih:=Lib.hid hF2); (clear hF2 HW); (have HW:=Ih); (clear Ih)) | (go_at_call 80; (refine (GM (⟨1,L.token,0,0,0,0,0,0,0,0,[]⟩:Bz) (.slice none 0 0) (H0.out.below HW.out.2.2) OK.out (Nat.le_trans hB HW.out.2.2.size) (CY:=fun _ => False) (DY.2 ⟨_,rfl,Kd.D5 _ _ _ _ _⟩) (fun _ hk => hk.elim)).mono ?_); (rintro e w9 ⟨rfl,hE⟩); (have HE:=Lib.hid (CJ.from_ (fun k hk => (H0.out.old k (.inl hk)).1) hgl HW.out.2.2 hB hE)); (clear hE HW)))
 all_goals (go_end0; exact ⟨rfl,HE.out⟩)
theorem Xw {w:World} {B g:Nat} {Ak Aj:Nat → Prop} {L:Lk} {q o:Value} (h:At w B Ak Aj g L q o) (hok:L.Ok) (hB:B ≤ w.heap.size) (hkn:L.known = false) (DT:L.phase = 2) :
  Calls Try.prog 73 #[.pointer (some ⟨g,0,none⟩)] w fun e w' => e = .returned (.tuple #[]) ∧ CJ w B Ak Aj g (emit_ L (⟨1,L.token,0,0,1,0,0,0,0,0,[]⟩:Bz)) q w':=by
 have hc2:w.cell? ⟨g,2,none⟩ = some (.int .u32 L.token):=(AA h.blk 2).trans rfl
 have hgl:g < w.heap.size:=AQ h.blk
 have H0:=Lib.hid h
 have OK:=Lib.hid hok
 have iy:=Lib.hid hkn
 have FH:=Lib.hid DT
 clear h hok hkn
 go_enter Try.func73,Try.ntmps73
 go_wp2_with (first | ((with_reducible refine gate_ (.store 27 (.tmp 2) (.tmp 7)) rfl ?_); (refine Ad rfl rfl 27 (.tmp 2) (.tmp 7) rfl w.heap.size _ rfl rfl 27 _ (heap_alloc_new w _) (by kernel_rfl) rfl (by kernel_rfl) ?_); (intro w1 hb1 Hr); (have hbl:=Hr.below ((Below.refl w.heap.size w).alloc (Nat.le_refl _) _) (Nat.le_refl _)); (have HW:=Lib.hid (show HB w g w.heap.size L q o L.token 0 0 0 w1 from ⟨(hbl.block g hgl).trans H0.out.blk,hb1,hbl⟩)); (have hc5:w1.cell? ⟨g,5,none⟩ = some (.bool false):=(AA HW.out.1 5).trans (by rw [← iy.out]; rfl)); (clear hb1 Hr hbl hc2); (have hc1:w1.cell? ⟨g,1,none⟩ = some (.int .i64 L.phase):=(AA HW.out.1 1).trans rfl); (have DT:=FH.out)) | ((with_reducible refine gate_ (.store 24 (.tmp 27) (.const (.int .u32 1))) rfl ?_); (refine AU (fun wz => HB w g w.heap.size L q o L.token 0 0 1 wz) rfl rfl ⟨_,(by have hz1:World.cell? _ ⟨w.heap.size,4,none⟩ = some _:=(AA HW.out.2.1 4).trans rfl; have hz2:=AL HW.out.2.1 4; first | (go_simp; done) | (go_simp; rfl)),(Below.heap_setCell _ ⟨w.heap.size,4,none⟩ _ g (by show g ≠ w.heap.size; omega)).trans HW.out.1,Af HW.out.2.1 4 _ rfl,HW.out.2.2.setCell (p:=⟨w.heap.size,4,none⟩) (Nat.le_refl _) _⟩ (fun w5 hF => ?_)); (have Ih:=Lib.hid hF); (clear hF HW hc1); (have HW:=Ih); (clear Ih)) | ((with_reducible refine AO (N:=29) rfl ?_); (refine KN (fun v wz => v = .agg #[.int .i64 1,.int .u32 L.token,.int .u32 0,.int .u32 0,.int .u32 1,.int .u32 0,.int .u32 0,.int .u32 0,.complex .f64 0 0,.slice none 0 0] ∧ HB w g w.heap.size L q o L.token 0 0 1 wz) rfl ⟨.agg #[.int .i64 1,.int .u32 L.token,.int .u32 0,.int .u32 0,.int .u32 1,.int .u32 0,.int .u32 0,.int .u32 0,.complex .f64 0 0,.slice none 0 0],_,(by have CP:=Try.underlying27; have hd0:World.cell? _ ⟨w.heap.size,0,none⟩ = some (.int .i64 1):=(AA HW.out.2.1 0).trans rfl; have hd1:World.cell? _ ⟨w.heap.size,1,none⟩ = some (.int .u32 L.token):=(AA HW.out.2.1 1).trans rfl; have hd2:World.cell? _ ⟨w.heap.size,2,none⟩ = some (.int .u32 0):=(AA HW.out.2.1 2).trans rfl; have hd3:World.cell? _ ⟨w.heap.size,3,none⟩ = some (.int .u32 0):=(AA HW.out.2.1 3).trans rfl; have hd4:World.cell? _ ⟨w.heap.size,4,none⟩ = some (.int .u32 1):=(AA HW.out.2.1 4).trans rfl; have hd5:World.cell? _ ⟨w.heap.size,5,none⟩ = some (.int .u32 0):=(AA HW.out.2.1 5).trans rfl; have hd6:World.cell? _ ⟨w.heap.size,6,none⟩ = some (.int .u32 0):=(AA HW.out.2.1 6).trans rfl; have hd7:World.cell? _ ⟨w.heap.size,7,none⟩ = some (.int .u32 0):=(AA HW.out.2.1 7).trans rfl; have hd8:World.cell? _ ⟨w.heap.size,8,none⟩ = some (.complex .f64 0 0):=(AA HW.out.2.1 8).trans rfl; have hd9:World.cell? _ ⟨w.heap.size,9,none⟩ = some (.slice none 0 0):=(AA HW.out.2.1 9).trans rfl; first | (go_simp; done) | (go_simp; rfl)),rfl,HW.out⟩ (fun v9 w8 hF => ?_)); (obtain ⟨rfl,hF2⟩:=hF); (have Ih:=Lib.hid hF2); (clear hF2 HW); (have HW:=Ih); (clear Ih)) | (go_at_call 80; (refine (GM (⟨1,L.token,0,0,1,0,0,0,0,0,[]⟩:Bz) (.slice none 0 0) (H0.out.below HW.out.2.2) OK.out (Nat.le_trans hB HW.out.2.2.size) (CY:=fun _ => False) (DY.2 ⟨_,rfl,Kd.D5 _ _ _ _ _⟩) (fun _ hk => hk.elim)).mono ?_); (rintro e w9 ⟨rfl,hE⟩); (have HE:=Lib.hid (CJ.from_ (fun k hk => (H0.out.old k (.inl hk)).1) hgl HW.out.2.2 hB hE)); (clear hE HW)))
 all_goals (go_end0; exact ⟨rfl,HE.out⟩)
theorem Xx {w:World} {B g:Nat} {Ak Aj:Nat → Prop} {L:Lk} {q o:Value} (h:At w B Ak Aj g L q o) (hok:L.Ok) (hB:B ≤ w.heap.size) (hkn:L.known = true) (DT:¬ L.phase = 2) :
  Calls Try.prog 73 #[.pointer (some ⟨g,0,none⟩)] w fun e w' => e = .returned (.tuple #[]) ∧ CJ w B Ak Aj g (emit_ L (⟨1,L.token,L.AB,L.yours,0,0,0,0,0,0,[]⟩:Bz)) q w':=by
 have hc2:w.cell? ⟨g,2,none⟩ = some (.int .u32 L.token):=(AA h.blk 2).trans rfl
 have hgl:g < w.heap.size:=AQ h.blk
 have H0:=Lib.hid h
 have OK:=Lib.hid hok
 have iy:=Lib.hid hkn
 have FH:=Lib.hid DT
 clear h hok hkn
 go_enter Try.func73,Try.ntmps73
 go_wp2_with (first | ((with_reducible refine gate_ (.store 27 (.tmp 2) (.tmp 7)) rfl ?_); (refine Ad rfl rfl 27 (.tmp 2) (.tmp 7) rfl w.heap.size _ rfl rfl 27 _ (heap_alloc_new w _) (by kernel_rfl) rfl (by kernel_rfl) ?_); (intro w1 hb1 Hr); (have hbl:=Hr.below ((Below.refl w.heap.size w).alloc (Nat.le_refl _) _) (Nat.le_refl _)); (have HW:=Lib.hid (show HB w g w.heap.size L q o L.token 0 0 0 w1 from ⟨(hbl.block g hgl).trans H0.out.blk,hb1,hbl⟩)); (have hc5:w1.cell? ⟨g,5,none⟩ = some (.bool true):=(AA HW.out.1 5).trans (by rw [← iy.out]; rfl)); (clear hb1 Hr hbl hc2)))
 have hSS:w1.drew.heap[g]? = some (.cells (row L q o) 131 (0,0)):=HW.out.1
 have Hg:HB w g w.heap.size L q o L.token 0 0 0 w1.drew:=⟨HW.out.1,HW.out.2.1,AZ HW.out.2.2⟩
 clear HW hc5
 refine BA (n:=12) (S:=fun w' => w'.heap[g]? = some (.cells (row L q o) 131 (0,0))) (ds:=[]) xZ (by kernel_rfl) rfl rfl (hSS) (fun hHeld => ?_)
 generalize w1.drew = w2 at Hg hHeld ⊢
 have HW:=Lib.hid Hg
 clear Hg
 refine pu 0 12 xh ?_
 refine pu 1 13 xk ?_
 refine pu 2 14 xm ?_
 refine tk 3 15 xq hHeld ?_ (hf:=by intro w' s0; have hc3:w'.cell? ⟨g,3,none⟩ = some (.int .u32 L.AB):=(AA s0 3).trans rfl; clear s0; go_simp; with_reducible rfl)
 refine pu 4 16 xu ?_
 refine pu 5 17 xw ?_
 refine pu 6 18 xx ?_
 refine tk 7 19 xy hHeld ?_ (hf:=by intro w' s0; have hc4:w'.cell? ⟨g,4,none⟩ = some (.int .u32 L.yours):=(AA s0 4).trans rfl; clear s0; go_simp; with_reducible rfl)
 refine pu 8 20 x8 ?_
 refine on 9 none x9 fun K hK => ?_
 have hz1:w2.cell? ⟨w.heap.size,2,none⟩ = some _:=(AA HW.out.2.1 2).trans rfl
 have hz2:=AL HW.out.2.1 2
 refine CG (fun wz => HB w g w.heap.size L q o L.token L.AB 0 0 wz) (by rfl) rfl ⟨_,by first | (go_simp; done) | (go_simp; rfl),(Below.heap_setCell _ ⟨w.heap.size,2,none⟩ _ g (by show g ≠ w.heap.size; omega)).trans HW.out.1,Af HW.out.2.1 2 _ rfl,HW.out.2.2.setCell (p:=⟨w.heap.size,2,none⟩) (Nat.le_refl _) _⟩ (fun w3 hF => ?_)
 have Ih:=Lib.hid hF
 clear hF hz1 hz2 HW hHeld
 have HW:=Ih
 clear Ih
 refine hK.out _ _ HW.out.1 (fun hHeld => ?_)
 clear hK K
 refine pu 10 21 yA ?_
 refine on 11 none yB fun K hK => ?_
 have hz1:w3.cell? ⟨w.heap.size,3,none⟩ = some _:=(AA HW.out.2.1 3).trans rfl
 have hz2:=AL HW.out.2.1 3
 refine CG (fun wz => HB w g w.heap.size L q o L.token L.AB L.yours 0 wz) (by rfl) rfl ⟨_,by first | (go_simp; done) | (go_simp; rfl),(Below.heap_setCell _ ⟨w.heap.size,3,none⟩ _ g (by show g ≠ w.heap.size; omega)).trans HW.out.1,Af HW.out.2.1 3 _ rfl,HW.out.2.2.setCell (p:=⟨w.heap.size,3,none⟩) (Nat.le_refl _) _⟩ (fun w4 hF => ?_)
 have Ih:=Lib.hid hF
 clear hF hz1 hz2 HW hHeld
 have HW:=Ih
 clear Ih
 refine hK.out _ _ HW.out.1 (fun hHeld => ?_)
 clear hK K
 refine BG (by kernel_rfl) ?_
 clear hHeld
 have hc1:w4.cell? ⟨g,1,none⟩ = some (.int .i64 L.phase):=(AA HW.out.1 1).trans rfl
 have DT:=FH.out
 go_wp2_with (first | ((with_reducible refine gate_ (.store 24 (.tmp 27) (.const (.int .u32 1))) rfl ?_); (refine AU (fun wz => HB w g w.heap.size L q o L.token L.AB L.yours 1 wz) rfl rfl ⟨_,(by have hz1:World.cell? _ ⟨w.heap.size,4,none⟩ = some _:=(AA HW.out.2.1 4).trans rfl; have hz2:=AL HW.out.2.1 4; first | (go_simp; done) | (go_simp; rfl)),(Below.heap_setCell _ ⟨w.heap.size,4,none⟩ _ g (by show g ≠ w.heap.size; omega)).trans HW.out.1,Af HW.out.2.1 4 _ rfl,HW.out.2.2.setCell (p:=⟨w.heap.size,4,none⟩) (Nat.le_refl _) _⟩ (fun w5 hF => ?_)); (have Ih:=Lib.hid hF); (clear hF HW hc1); (have HW:=Ih); (clear Ih)) | ((with_reducible refine AO (N:=29) rfl ?_); (refine KN (fun v wz => v = .agg #[.int .i64 1,.int .u32 L.token,.int .u32 L.AB,.int .u32 L.yours,.int .u32 0,.int .u32 0,.int .u32 0,.int .u32 0,.complex .f64 0 0,.slice none 0 0] ∧ HB w g w.heap.size L q o L.token L.AB L.yours 0 wz) rfl ⟨.agg #[.int .i64 1,.int .u32 L.token,.int .u32 L.AB,.int .u32 L.yours,.int .u32 0,.int .u32 0,.int .u32 0,.int .u32 0,.complex .f64 0 0,.slice none 0 0],_,(by have CP:=Try.underlying27; have hd0:World.cell? _ ⟨w.heap.size,0,none⟩ = some (.int .i64 1):=(AA HW.out.2.1 0).trans rfl; have hd1:World.cell? _ ⟨w.heap.size,1,none⟩ = some (.int .u32 L.token):=(AA HW.out.2.1 1).trans rfl; have hd2:World.cell? _ ⟨w.heap.size,2,none⟩ = some (.int .u32 L.AB):=(AA HW.out.2.1 2).trans rfl; have hd3:World.cell? _ ⟨w.heap.size,3,none⟩ = some (.int .u32 L.yours):=(AA HW.out.2.1 3).trans rfl; have hd4:World.cell? _ ⟨w.heap.size,4,none⟩ = some (.int .u32 0):=(AA HW.out.2.1 4).trans rfl; have hd5:World.cell? _ ⟨w.heap.size,5,none⟩ = some (.int .u32 0):=(AA HW.out.2.1 5).trans rfl; have hd6:World.cell? _ ⟨w.heap.size,6,none⟩ = some (.int .u32 0):=(AA HW.out.2.1 6).trans rfl; have hd7:World.cell? _ ⟨w.heap.size,7,none⟩ = some (.int .u32 0):=(AA HW.out.2.1 7).trans rfl; have hd8:World.cell? _ ⟨w.heap.size,8,none⟩ = some (.complex .f64 0 0):=(AA HW.out.2.1 8).trans rfl; have hd9:World.cell? _ ⟨w.heap.size,9,none⟩ = some (.slice none 0 0):=(AA HW.out.2.1 9).trans rfl; first | (go_simp; done) | (go_simp; rfl)),rfl,HW.out⟩ (fun v9 w8 hF => ?_)); (obtain ⟨rfl,hF2⟩:=hF); (have Ih:=Lib.hid hF2); (clear hF2 HW); (have HW:=Ih); (clear Ih)) | (go_at_call 80; (refine (GM (⟨1,L.token,L.AB,L.yours,0,0,0,0,0,0,[]⟩:Bz) (.slice none 0 0) (H0.out.below HW.out.2.2) OK.out (Nat.le_trans hB HW.out.2.2.size) (CY:=fun _ => False) (DY.2 ⟨_,rfl,Kd.D5 _ _ _ _ _⟩) (fun _ hk => hk.elim)).mono ?_); (rintro e w9 ⟨rfl,hE⟩); (have HE:=Lib.hid (CJ.from_ (fun k hk => (H0.out.old k (.inl hk)).1) hgl HW.out.2.2 hB hE)); (clear hE HW)))
 all_goals (go_end0; exact ⟨rfl,HE.out⟩)
theorem Xy {w:World} {B g:Nat} {Ak Aj:Nat → Prop} {L:Lk} {q o:Value} (h:At w B Ak Aj g L q o) (hok:L.Ok) (hB:B ≤ w.heap.size) (hkn:L.known = true) (DT:L.phase = 2) :
  Calls Try.prog 73 #[.pointer (some ⟨g,0,none⟩)] w fun e w' => e = .returned (.tuple #[]) ∧ CJ w B Ak Aj g (emit_ L (⟨1,L.token,L.AB,L.yours,1,0,0,0,0,0,[]⟩:Bz)) q w':=by
 have hc2:w.cell? ⟨g,2,none⟩ = some (.int .u32 L.token):=(AA h.blk 2).trans rfl
 have hgl:g < w.heap.size:=AQ h.blk
 have H0:=Lib.hid h
 have OK:=Lib.hid hok
 have iy:=Lib.hid hkn
 have FH:=Lib.hid DT
 clear h hok hkn
 go_enter Try.func73,Try.ntmps73
 go_wp2_with (first | ((with_reducible refine gate_ (.store 27 (.tmp 2) (.tmp 7)) rfl ?_); (refine Ad rfl rfl 27 (.tmp 2) (.tmp 7) rfl w.heap.size _ rfl rfl 27 _ (heap_alloc_new w _) (by kernel_rfl) rfl (by kernel_rfl) ?_); (intro w1 hb1 Hr); (have hbl:=Hr.below ((Below.refl w.heap.size w).alloc (Nat.le_refl _) _) (Nat.le_refl _)); (have HW:=Lib.hid (show HB w g w.heap.size L q o L.token 0 0 0 w1 from ⟨(hbl.block g hgl).trans H0.out.blk,hb1,hbl⟩)); (have hc5:w1.cell? ⟨g,5,none⟩ = some (.bool true):=(AA HW.out.1 5).trans (by rw [← iy.out]; rfl)); (clear hb1 Hr hbl hc2)))
 have hSS:w1.drew.heap[g]? = some (.cells (row L q o) 131 (0,0)):=HW.out.1
 have Hg:HB w g w.heap.size L q o L.token 0 0 0 w1.drew:=⟨HW.out.1,HW.out.2.1,AZ HW.out.2.2⟩
 clear HW hc5
 refine BA (n:=12) (S:=fun w' => w'.heap[g]? = some (.cells (row L q o) 131 (0,0))) (ds:=[]) xZ (by kernel_rfl) rfl rfl (hSS) (fun hHeld => ?_)
 generalize w1.drew = w2 at Hg hHeld ⊢
 have HW:=Lib.hid Hg
 clear Hg
 refine pu 0 12 xh ?_
 refine pu 1 13 xk ?_
 refine pu 2 14 xm ?_
 refine tk 3 15 xq hHeld ?_ (hf:=by intro w' s0; have hc3:w'.cell? ⟨g,3,none⟩ = some (.int .u32 L.AB):=(AA s0 3).trans rfl; clear s0; go_simp; with_reducible rfl)
 refine pu 4 16 xu ?_
 refine pu 5 17 xw ?_
 refine pu 6 18 xx ?_
 refine tk 7 19 xy hHeld ?_ (hf:=by intro w' s0; have hc4:w'.cell? ⟨g,4,none⟩ = some (.int .u32 L.yours):=(AA s0 4).trans rfl; clear s0; go_simp; with_reducible rfl)
 refine pu 8 20 x8 ?_
 refine on 9 none x9 fun K hK => ?_
 have hz1:w2.cell? ⟨w.heap.size,2,none⟩ = some _:=(AA HW.out.2.1 2).trans rfl
 have hz2:=AL HW.out.2.1 2
 refine CG (fun wz => HB w g w.heap.size L q o L.token L.AB 0 0 wz) (by rfl) rfl ⟨_,by first | (go_simp; done) | (go_simp; rfl),(Below.heap_setCell _ ⟨w.heap.size,2,none⟩ _ g (by show g ≠ w.heap.size; omega)).trans HW.out.1,Af HW.out.2.1 2 _ rfl,HW.out.2.2.setCell (p:=⟨w.heap.size,2,none⟩) (Nat.le_refl _) _⟩ (fun w3 hF => ?_)
 have Ih:=Lib.hid hF
 clear hF hz1 hz2 HW hHeld
 have HW:=Ih
 clear Ih
 refine hK.out _ _ HW.out.1 (fun hHeld => ?_)
 clear hK K
 refine pu 10 21 yA ?_
 refine on 11 none yB fun K hK => ?_
 have hz1:w3.cell? ⟨w.heap.size,3,none⟩ = some _:=(AA HW.out.2.1 3).trans rfl
 have hz2:=AL HW.out.2.1 3
 refine CG (fun wz => HB w g w.heap.size L q o L.token L.AB L.yours 0 wz) (by rfl) rfl ⟨_,by first | (go_simp; done) | (go_simp; rfl),(Below.heap_setCell _ ⟨w.heap.size,3,none⟩ _ g (by show g ≠ w.heap.size; omega)).trans HW.out.1,Af HW.out.2.1 3 _ rfl,HW.out.2.2.setCell (p:=⟨w.heap.size,3,none⟩) (Nat.le_refl _) _⟩ (fun w4 hF => ?_)
 have Ih:=Lib.hid hF
 clear hF hz1 hz2 HW hHeld
 have HW:=Ih
 clear Ih
 refine hK.out _ _ HW.out.1 (fun hHeld => ?_)
 clear hK K
 refine BG (by kernel_rfl) ?_
 clear hHeld
 have hc1:w4.cell? ⟨g,1,none⟩ = some (.int .i64 L.phase):=(AA HW.out.1 1).trans rfl
 have DT:=FH.out
 go_wp2_with (first | ((with_reducible refine gate_ (.store 24 (.tmp 27) (.const (.int .u32 1))) rfl ?_); (refine AU (fun wz => HB w g w.heap.size L q o L.token L.AB L.yours 1 wz) rfl rfl ⟨_,(by have hz1:World.cell? _ ⟨w.heap.size,4,none⟩ = some _:=(AA HW.out.2.1 4).trans rfl; have hz2:=AL HW.out.2.1 4; first | (go_simp; done) | (go_simp; rfl)),(Below.heap_setCell _ ⟨w.heap.size,4,none⟩ _ g (by show g ≠ w.heap.size; omega)).trans HW.out.1,Af HW.out.2.1 4 _ rfl,HW.out.2.2.setCell (p:=⟨w.heap.size,4,none⟩) (Nat.le_refl _) _⟩ (fun w5 hF => ?_)); (have Ih:=Lib.hid hF); (clear hF HW hc1); (have HW:=Ih); (clear Ih)) | ((with_reducible refine AO (N:=29) rfl ?_); (refine KN (fun v wz => v = .agg #[.int .i64 1,.int .u32 L.token,.int .u32 L.AB,.int .u32 L.yours,.int .u32 1,.int .u32 0,.int .u32 0,.int .u32 0,.complex .f64 0 0,.slice none 0 0] ∧ HB w g w.heap.size L q o L.token L.AB L.yours 1 wz) rfl ⟨.agg #[.int .i64 1,.int .u32 L.token,.int .u32 L.AB,.int .u32 L.yours,.int .u32 1,.int .u32 0,.int .u32 0,.int .u32 0,.complex .f64 0 0,.slice none 0 0],_,(by have CP:=Try.underlying27; have hd0:World.cell? _ ⟨w.heap.size,0,none⟩ = some (.int .i64 1):=(AA HW.out.2.1 0).trans rfl; have hd1:World.cell? _ ⟨w.heap.size,1,none⟩ = some (.int .u32 L.token):=(AA HW.out.2.1 1).trans rfl; have hd2:World.cell? _ ⟨w.heap.size,2,none⟩ = some (.int .u32 L.AB):=(AA HW.out.2.1 2).trans rfl; have hd3:World.cell? _ ⟨w.heap.size,3,none⟩ = some (.int .u32 L.yours):=(AA HW.out.2.1 3).trans rfl; have hd4:World.cell? _ ⟨w.heap.size,4,none⟩ = some (.int .u32 1):=(AA HW.out.2.1 4).trans rfl; have hd5:World.cell? _ ⟨w.heap.size,5,none⟩ = some (.int .u32 0):=(AA HW.out.2.1 5).trans rfl; have hd6:World.cell? _ ⟨w.heap.size,6,none⟩ = some (.int .u32 0):=(AA HW.out.2.1 6).trans rfl; have hd7:World.cell? _ ⟨w.heap.size,7,none⟩ = some (.int .u32 0):=(AA HW.out.2.1 7).trans rfl; have hd8:World.cell? _ ⟨w.heap.size,8,none⟩ = some (.complex .f64 0 0):=(AA HW.out.2.1 8).trans rfl; have hd9:World.cell? _ ⟨w.heap.size,9,none⟩ = some (.slice none 0 0):=(AA HW.out.2.1 9).trans rfl; first | (go_simp; done) | (go_simp; rfl)),rfl,HW.out⟩ (fun v9 w8 hF => ?_)); (obtain ⟨rfl,hF2⟩:=hF); (have Ih:=Lib.hid hF2); (clear hF2 HW); (have HW:=Ih); (clear Ih)) | (go_at_call 80; (refine (GM (⟨1,L.token,L.AB,L.yours,1,0,0,0,0,0,[]⟩:Bz) (.slice none 0 0) (H0.out.below HW.out.2.2) OK.out (Nat.le_trans hB HW.out.2.2.size) (CY:=fun _ => False) (DY.2 ⟨_,rfl,Kd.D5 _ _ _ _ _⟩) (fun _ hk => hk.elim)).mono ?_); (rintro e w9 ⟨rfl,hE⟩); (have HE:=Lib.hid (CJ.from_ (fun k hk => (H0.out.old k (.inl hk)).1) hgl HW.out.2.2 hB hE)); (clear hE HW)))
 all_goals (go_end0; exact ⟨rfl,HE.out⟩)
theorem Hu {w:World} {B g:Nat} {Ak Aj:Nat → Prop} {L:Lk} {q o:Value} (h:At w B Ak Aj g L q o) (hok:L.Ok) (hB:B ≤ w.heap.size) :
  Calls Try.prog 73 #[.pointer (some ⟨g,0,none⟩)] w fun e w' => e = .returned (.tuple #[]) ∧ CJ w B Ak Aj g (emit_ L (Bc L)) q w':=by
 by_cases hp:L.phase = 2 <;> cases hk:L.known
 ·have:=Xw h hok hB hk hp
  simpa [Bc,hk,hp] using this
 ·have:=Xy h hok hB hk hp
  simpa [Bc,hk,hp] using this
 ·have:=Xv h hok hB hk hp
  simpa [Bc,hk,hp] using this
 ·have:=Xx h hok hB hk hp
  simpa [Bc,hk,hp] using this
def Aa (L:Lk):Lk:={ L with phase:=0,queue:=[],sent:=0,known:=false }
theorem aX {L:Lk} (h:L.Ok):(Aa L).Ok:=by
 have h1:=h.own; have h2:=h.token; have h3:=h.AB; have h4:=h.yours; have h5:=h.out; have h6:=h.base; have h7:=h.expected; have h8:=h.idle
 constructor <;> simp [Aa] <;> omega
theorem VJ {w:World} {B g:Nat} {Ak Aj:Nat → Prop} {L:Lk} {q o:Value} (h:At w B Ak Aj g L q o):Calls Try.prog 78 #[.pointer (some ⟨g,0,none⟩)] w fun e w' => e = .returned (.bool (decide (L.phase = 2))) ∧ At w' B (fun _ => False) Aj g (Aa L) (.slice none 0 0) o ∧ Go.Proofs.Ytnkkgofpifhoeaa.Steps.At g w w':=by
 have hc1:w.cell? ⟨g,1,none⟩ = some (.int .i64 L.phase):=(AA h.blk 1).trans rfl
 have K0:=Lib.hid (⟨h,Steps.At.refl g w⟩:At w B Ak Aj g L q o ∧ Go.Proofs.Ytnkkgofpifhoeaa.Steps.At g w w)
 clear h
 go_enter Try.func78,Try.ntmps78
 go_wp2_with (first | ((with_reducible refine gate_ (.store 3 (.tmp 13) (.const (.int .i64 0))) rfl ?_); (refine AU (fun wz => At wz B Ak Aj g { L with phase:=0 } q o ∧ Go.Proofs.Ytnkkgofpifhoeaa.Steps.At g w wz) rfl rfl ⟨_,(by have hz1:World.cell? _ ⟨g,1,none⟩ = some _:=(AA K0.out.1.blk 1).trans rfl; have hz2:=AL K0.out.1.blk 1; first | (go_simp; done) | (go_simp; rfl)),K0.out.1.EP 1 _ rfl rfl rfl,Steps.At.set K0.out.2 _ _⟩ (fun Ce hF => ?_)); (have K1:=Lib.hid hF); (clear hF)) | ((with_reducible refine gate_ (.store 45 (.tmp 16) (.const (.slice none 0 0))) rfl ?_); (refine AU (fun wz => At wz B (fun _ => False) Aj g { L with phase:=0,queue:=[] } (.slice none 0 0) o ∧ Go.Proofs.Ytnkkgofpifhoeaa.Steps.At g w wz) rfl rfl ⟨_,(by have hz1:World.cell? _ ⟨g,6,none⟩ = some _:=(AA K1.out.1.blk 6).trans rfl; have hz2:=AL K1.out.1.blk 6; first | (go_simp; done) | (go_simp; rfl)),K1.out.1.noq rfl rfl rfl,Steps.At.set K1.out.2 _ _⟩ (fun BZ hF => ?_)); (have K2:=Lib.hid hF); (clear hF)) | ((with_reducible refine gate_ (.store 3 (.tmp 19) (.const (.int .i64 0))) rfl ?_); (refine AU (fun wz => At wz B (fun _ => False) Aj g { L with phase:=0,queue:=[],sent:=0 } (.slice none 0 0) o ∧ Go.Proofs.Ytnkkgofpifhoeaa.Steps.At g w wz) rfl rfl ⟨_,(by have hz1:World.cell? _ ⟨g,7,none⟩ = some _:=(AA K2.out.1.blk 7).trans rfl; have hz2:=AL K2.out.1.blk 7; first | (go_simp; done) | (go_simp; rfl)),K2.out.1.EP 7 _ rfl rfl rfl,Steps.At.set K2.out.2 _ _⟩ (fun DK hF => ?_)); (have K3:=Lib.hid hF); (clear hF)) | ((with_reducible refine gate_ (.store 4 (.tmp 22) (.const (.bool false))) rfl ?_); (refine AU (fun wz => At wz B (fun _ => False) Aj g { L with phase:=0,queue:=[],sent:=0,known:=false } (.slice none 0 0) o ∧ Go.Proofs.Ytnkkgofpifhoeaa.Steps.At g w wz) rfl rfl ⟨_,(by have hz1:World.cell? _ ⟨g,5,none⟩ = some _:=(AA K3.out.1.blk 5).trans rfl; have hz2:=AL K3.out.1.blk 5; first | (go_simp; done) | (go_simp; rfl)),K3.out.1.EP 5 _ rfl rfl rfl,Steps.At.set K3.out.2 _ _⟩ (fun EL hF => ?_)); (have K4:=Lib.hid hF); (clear hF)))
 all_goals (go_ret; exact ⟨rfl,K4.out.1,K4.out.2⟩)
theorem Dx {w w1:World} {g:Nat} (h:Go.Proofs.Ytnkkgofpifhoeaa.Steps.At g w w1):Kept w w1 (fun k => k = g):=⟨Nat.le_of_eq h.size.symm,fun i _ hn => h.block i hn⟩
def KO (w:World) (B:Nat) (Ak Aj:Nat → Prop) (g:Nat) (L:Lk) (w':World):Prop :=
 ∃ Iz q,(∀ k,Iz k → Ak k) ∧ ∃ o,At w' B Iz (fun k => Aj k ∨ w.heap.size ≤ k ∧ k < w'.heap.size) g L q o ∧ Kept w w' (fun k => Aj k ∨ k = g) ∧ Below B w w'
theorem KO.same {w:World} {B g:Nat} {Ak Aj:Nat → Prop} {L:Lk} {q o:Value} (h:At w B Ak Aj g L q o):KO w B Ak Aj g L w :=
 ⟨Ak,q,fun _ h => h,o,⟨h.blk,h.queue,Kd.BV h.out (fun _ hk => .inl hk),h.low,fun k hk ho => ho.elim (h.apart k hk) (fun hn => by omega),fun k hk => (hk.elim (fun x => h.old k (.inl x)) (fun x => x.elim (fun y => h.old k (.inr y)) (fun hn => by omega)))⟩,Kept.refl _ _,Below.refl _ _⟩
theorem CJ.drops {w w1 w':World} {B g:Nat} {Ak Aj:Nat → Prop} {L:Lk} {q:Value} (hat:Go.Proofs.Ytnkkgofpifhoeaa.Steps.At g w w1) (hB:B ≤ g) (h:CJ w1 B (fun _ => False) Aj g L q w'):KO w B Ak Aj g L w':=by
 obtain ⟨o,h1,h2,h3⟩:=h
 rw [hat.size] at h1
 exact ⟨fun _ => False,q,fun _ hf => hf.elim,o,h1,((Dx hat).mono (fun k hk => .inr hk)).BQ h2 (fun k hk => .inl hk),(hat.below (Below.refl _ _) hB).trans h3⟩
def DN (L:Lk):Lk:=if L.phase = 0 ∧ L.token ≠ 4294967295 then emit_ (CB L) (Bc (CB L)) else L
def EK (L:Lk):Int:=if L.phase = 0 then (if L.token = 4294967295 then 111 else 0) else 110
theorem aY {w:World} {B g:Nat} {Ak Aj:Nat → Prop} {L:Lk} {q o:Value} (h:At w B Ak Aj g L q o) (hok:L.Ok) (hB:B ≤ w.heap.size):Calls Try.prog 27 #[.pointer (some ⟨g,0,none⟩)] w fun e w' => e = .returned (.int .i64 (EK L)) ∧ KO w B Ak Aj g (DN L) w':=by
 have hc1:w.cell? ⟨g,1,none⟩ = some (.int .i64 L.phase):=(AA h.blk 1).trans rfl
 have hc2:w.cell? ⟨g,2,none⟩ = some (.int .u32 L.token):=(AA h.blk 2).trans rfl
 have ht:=hok.token
 have H:=Lib.hid h
 have OK:=Lib.hid hok
 clear h hok
 by_cases hp:L.phase = 0
 ·by_cases htk:L.token = 4294967295
  ·have hE:EK L = 111:=by simp [EK,hp,htk]
   have hL:DN L = L:=by simp [DN,hp,htk]
   rw [hE,hL]
   clear hE hL
   go_enter Try.func27,Try.ntmps27
   go_wp2
   all_goals (go_ret; exact ⟨rfl,KO.same H.out⟩)
  ·have hE:EK L = 0:=by simp [EK,hp,htk]
   have hL:DN L = emit_ (CB L) (Bc (CB L)):=by simp [DN,hp,htk]
   rw [hE,hL]
   clear hE hL
   go_enter Try.func27,Try.ntmps27
   go_wp2_with (first | (go_at_call 72; (refine (Qu H.out OK.out (by omega)).mono ?_); (rintro e w1 ⟨rfl,h1,hat⟩); (have H1:=Lib.hid h1); (have HAT:=Lib.hid hat); (clear h1 hat)) | (go_at_call 73; (refine (Hu H1.out (NQ OK.out (by omega)) (by have:=HAT.out.size; omega)).mono ?_); (rintro e w2 ⟨rfl,hE⟩); (have HE:=Lib.hid (CJ.drops (Ak:=Ak) HAT.out H.out.low hE)); (clear hE)))
   all_goals (go_ret; exact ⟨rfl,HE.out⟩)
 ·have hE:EK L = 110:=by simp [EK,hp]
  have hL:DN L = L:=by simp [DN,hp]
  rw [hE,hL]
  clear hE hL
  go_enter Try.func27,Try.ntmps27
  go_wp2
  all_goals (go_ret; exact ⟨rfl,KO.same H.out⟩)
theorem IJ:(Try.prog.info? 5).map (fun i => (i.zero,i.size,i.bytes)) = some (some (.int .u8 0),1,1):=by kernel_rfl
theorem CJ.qQ {w w2 w':World} {B g:Nat} {Ak Aj:Nat → Prop} {L:Lk} {q:Value} (hq:∀ k,Ak k → k < w.heap.size) (hg:g < w.heap.size) (hb:Below w.heap.size w w2) (hB:B ≤ w.heap.size) (h:CJ w2 B Ak (fun k => Aj k ∨ w.heap.size ≤ k ∧ k < w2.heap.size) g L q w'):CJ w B Ak Aj g L q w':=by
 obtain ⟨o,h1,h2,h3⟩:=h
 have hs:=hb.size
 have hs2:=h2.1
 refine ⟨o,⟨h1.blk,h1.queue,Kd.BV h1.out (fun k hk => ?_),h1.low,fun k hk ho => ?_,fun k hk => ?_⟩,(Kept.of_below hb _).BQ h2 (fun k hk => ?_),(hb.mono hB).trans h3⟩
 ·rcases hk with (hk | hk) | hk
  ·exact .inl hk
  ·exact .inr ⟨hk.1,by omega⟩
  ·exact .inr ⟨by omega,hk.2⟩
 ·rcases ho with ho | ho
  ·exact h1.apart k hk (.inl (.inl ho))
  ·have:=hq k hk; omega
 ·rcases hk with hk | hk | hk
  ·exact h1.old k (.inl hk)
  ·exact h1.old k (.inr (.inl (.inl hk)))
  ·exact ⟨hk.2,by omega⟩
 ·rcases hk with (hk | hk) | hk
  ·exact .inl (.inl hk)
  ·exact .inr hk.1
  ·exact .inl (.inr hk)
def Dp (L:Lk) (i:Int):Bz:=⟨2,L.token,L.AB,L.yours,IntKind.u32.wrap (L.base + IntKind.u32.wrap i),L.expected,0,0,0,0,L.queue.getD i.toNat []⟩
theorem Pg {w:World} {B g:Nat} {Ak Aj:Nat → Prop} {L:Lk} {q o:Value} (h:At w B Ak Aj g L q o) (hok:L.Ok) (hB:B ≤ w.heap.size) (i:Int) (hi0:0 ≤ i) (hi1:i < L.queue.length) :
  Calls Try.prog 75 #[.pointer (some ⟨g,0,none⟩),.int .i64 i] w fun e w' => e = .returned (.tuple #[]) ∧ CJ w B Ak Aj g (emit_ L (Dp L i)) q w':=by
 obtain ⟨gq,oq,cq,hq,_⟩:=Kd.iZ h.queue (by omega)
 have aA:=hok.queue
 have hQ:=h.queue
 rw [hq] at hQ
 obtain ⟨ce,jA,yO,qR,_⟩:=Kd.ig hQ [] i hi0 hi1
 obtain ⟨vb,rfl,hRb⟩:=yO
 have hcb:w.cell? ⟨gq,oq + i.toNat,none⟩ = some vb:=by
  have:=qR 0 _ rfl
  rwa [show Kd.sz bytes = 1 from rfl,Nat.mul_one,Nat.add_zero] at this
 generalize hbd:L.queue.getD i.toNat [] = body at hRb
 have hbl:body.length ≤ 1000:=by
  subst hbd
  rw [List.getD_eq_getElem?_getD,List.getElem?_eq_getElem (by omega)]
  exact hok.rows _ (List.getElem_mem _)
 obtain ⟨Ab,cb,hvb,hlb,hCb⟩:=Kd.IG hRb
 subst hvb
 have hgl:g < w.heap.size:=AQ h.blk
 have ht:=hok.base
 have H0:=Lib.hid h
 have OK:=Lib.hid hok
 have V9:=Lib.hid hCb
 have FP:=Lib.hid hbl
 have BB:=Lib.hid hbd
 have HQ:=Lib.hid hq
 have hin:i ≤ 63:=by omega
 have yP:=Lib.hid aA
 clear h hok hQ hCb hRb hlb hbl hbd jA qR hq aA
 generalize hnl:L.queue.length = nl at hi1
 have jB:=Lib.hid hnl
 clear hnl
 go_enter Try.func75,Try.ntmps75
 have hSS:w.drew.heap[g]? = some (.cells (row L (.slice (some ⟨gq,oq,none⟩) nl cq) o) 131 (0,0)) ∧ w.drew.cell? ⟨gq,oq + i.toNat,none⟩ = some (.slice Ab body.length cb):=⟨H0.out.blk.trans (by rw [HQ.out,jB.out]),hcb⟩
 have hbd:Below w.heap.size w w.drew:=AZ (Below.refl _ _)
 have hsz:w.drew.heap.size = w.heap.size:=rfl
 clear hcb
 refine BA (n:=34) (S:=fun w' => w'.heap[g]? = some (.cells (row L (.slice (some ⟨gq,oq,none⟩) nl cq) o) 131 (0,0)) ∧ w'.cell? ⟨gq,oq + i.toNat,none⟩ = some (.slice Ab body.length cb)) (ds:=[33]) M21 (by kernel_rfl) rfl rfl (hSS) (fun hHeld => ?_)
 generalize w.drew = w2 at hbd hsz hHeld ⊢
 have Ph:=Lib.hid hbd
 have OU:=Lib.hid hsz
 clear hbd hsz
 refine pu 0 4 M22 ?_
 refine pu 1 5 M24 ?_
 refine pu 2 6 M25 ?_
 refine pu 3 7 M26 ?_
 refine tk 4 8 M28 hHeld ?_ (hf:=by intro w' s0; have hc2:w'.cell? ⟨g,2,none⟩ = some (.int .u32 L.token):=(AA s0.1 2).trans rfl; clear s0; go_simp; with_reducible rfl)
 refine pu 5 9 M29 ?_
 refine pu 6 10 M2a ?_
 refine pu 7 11 M2c ?_
 refine tk 8 12 M2d hHeld ?_ (hf:=by intro w' s0; have hc3:w'.cell? ⟨g,3,none⟩ = some (.int .u32 L.AB):=(AA s0.1 3).trans rfl; clear s0; go_simp; with_reducible rfl)
 refine pu 9 13 M2e ?_
 refine pu 10 14 M2g ?_
 refine pu 11 15 M2h ?_
 refine tk 12 16 M2i hHeld ?_ (hf:=by intro w' s0; have hc4:w'.cell? ⟨g,4,none⟩ = some (.int .u32 L.yours):=(AA s0.1 4).trans rfl; clear s0; go_simp; with_reducible rfl)
 refine pu 13 17 M2k ?_
 refine pu 14 18 M2l ?_
 refine pu 15 19 M2m ?_
 refine tk 16 20 M2o hHeld ?_ (hf:=by intro w' s0; have hc8:w'.cell? ⟨g,8,none⟩ = some (.int .u32 L.base):=(AA s0.1 8).trans rfl; clear s0; go_simp; with_reducible rfl)
 refine pu 17 21 M2p ?_
 refine pu 18 22 M2q ?_
 refine pu 19 23 M2t ?_
 refine pu 20 24 M2u ?_
 refine pu 21 25 M2v ?_
 refine pu 22 26 M2w ?_
 refine tk 23 27 M2y hHeld ?_ (hf:=by intro w' s0; have Bh:w'.cell? ⟨g,9,none⟩ = some (.int .u32 L.expected):=(AA s0.1 9).trans rfl; clear s0; go_simp; with_reducible rfl)
 refine pu 24 28 M2A ?_
 refine pu 25 29 M2B ?_
 refine pu 26 30 M2C ?_
 refine tk 27 31 M2E hHeld ?_ (hf:=by intro w' s0; have hc6:w'.cell? ⟨g,6,none⟩ = some (.slice (some ⟨gq,oq,none⟩) nl cq):=(AA s0.1 6).trans rfl; clear s0; go_simp; with_reducible rfl)
 refine pu 28 32 M2F ?_
 refine pu 29 33 M2H ?_
 refine tk 30 34 M2I hHeld ?_ (hf:=by intro w' s0; have hcb:=s0.2; clear s0; go_simp; rfl)
 refine on 31 (some 35) M2J fun K hK => ?_
 refine Kd.BO (Kd.int .u8) (Rr:=fun x cs => cs = [Value.int .u8 x]) (w0:=w) B (by rfl) (.const (.slice none 0 0)) (.tmp 34) 22 5 (.int .u8 0) 1 rfl Try.underlying22 IJ rfl (by decide) (by decide) (.slice none 0 0) [] body Ab body.length cb (fun k => w2.heap.size ≤ k) (fun _ => False) rfl rfl (Kd.D5 _ _ _ _ _) (Kd.Cm V9.out Ph.out) (fun _ _ hx => hx) (fun _ hf => hf.elim) (fun k hk => hk) (Ph.out.mono hB) (by have:=OU.out; omega) (by have:=FP.out; simp; omega) ?_
 intro v1 w3 hR hbl hg _
 obtain ⟨A1,c1,hv1⟩:=Kd.Am hR
 subst hv1
 have hbg:Below w2.heap.size w2 w3:=⟨hg.os,hg.tape,hg.output,hg.size,fun k hk => hg.block k hk (by simp [Value.ownBlock])⟩
 have hb3:Below w.heap.size w w3:=Ph.out.trans (hbg.mono Ph.out.size)
 have HB3:=Lib.hid hb3
 have HR3:=Lib.hid (show (Kd.int .u8).R 5 w3 B (fun k => w2.heap.size ≤ k) _ body from hR)
 have hS3:=(⟨(hbg.block g (AQ hHeld.1)).trans hHeld.1,Kd.V8 hbg.block hHeld.2⟩:w3.heap[g]? = some (.cells (row L (.slice (some ⟨gq,oq,none⟩) nl cq) o) 131 (0,0)) ∧ w3.cell? ⟨gq,oq + i.toNat,none⟩ = some (.slice Ab body.length cb))
 clear hR hbl hg hbg hb3 hHeld
 refine hK.out _ _ hS3 (fun hHeld => ?_)
 clear hK K hS3
 refine nm 35 ?_
 have h3:=H0.out.below HB3.out
 have h3':At w3 B Ak (fun k => Aj k ∨ w.heap.size ≤ k ∧ k < w3.heap.size) g L q o:=⟨h3.blk,h3.queue,Kd.BV h3.out (fun _ hk => .inl hk),h3.low,fun k hk ho => ho.elim (h3.apart k hk) (fun hn => by have:=(H0.out.old k (.inl hk)).1; omega),fun k hk => (hk.elim (fun x => h3.old k (.inl x)) (fun x => x.elim (fun y => h3.old k (.inr y)) (fun hn => ⟨hn.2,by omega⟩)))⟩
 have hRb:(Kd.int .u8).R 5 w3 B (fun k => w2.heap.size ≤ k ∧ k < w3.heap.size) (.slice A1 ([] ++ body).length c1) body:=Kd.BV (Kd.Du HR3.out) (fun k hk => ⟨hk.1,hk.2.2.1⟩)
 have hM9:pkt.M w3 B (fun k => w2.heap.size ≤ k ∧ k < w3.heap.size) (⟨2,L.token,L.AB,L.yours,IntKind.u32.wrap (L.base + IntKind.u32.wrap i),L.expected,0,0,0,0,body⟩:Bz) (cells (⟨2,L.token,L.AB,L.yours,IntKind.u32.wrap (L.base + IntKind.u32.wrap i),L.expected,0,0,0,0,body⟩:Bz) (.slice A1 ([] ++ body).length c1)):=DY.2 ⟨_,rfl,hRb⟩
 have hop:∀ k,(w2.heap.size ≤ k ∧ k < w3.heap.size) → (Aj k ∨ w.heap.size ≤ k ∧ k < w3.heap.size):=fun k hk => .inr ⟨OU.out ▸ hk.1,hk.2⟩
 have WA:=Lib.hid (GM (⟨2,L.token,L.AB,L.yours,IntKind.u32.wrap (L.base + IntKind.u32.wrap i),L.expected,0,0,0,0,body⟩:Bz) (.slice A1 ([] ++ body).length c1) h3' OK.out (Nat.le_trans hB HB3.out.size) hM9 hop)
 clear h3 h3' hRb hM9 hop
 refine pu 32 36 M2K ?_ (hy:=by intro w'; have CP:=Try.underlying27; go_simp; rfl)
 refine la 33 (some 37) M2L fun K hK => ?_
 refine BH Try.func80 (by kernel_rfl) rfl #[.pointer (some ⟨g,0,none⟩),.agg #[.int .i64 2,.int .u32 L.token,.int .u32 L.AB,.int .u32 L.yours,.int .u32 (IntKind.u32.wrap (L.base + IntKind.u32.wrap i)),.int .u32 L.expected,.int .u32 0,.int .u32 0,.complex .f64 0 0,.slice A1 ([] ++ body).length c1]] (by rfl) rfl rfl (by (try simp only [List.map_toArray,List.map_cons,List.map_nil]); first | done | rfl) ?_
 refine WA.out.mono ?_
 rintro e w9 ⟨rfl,hE⟩
 have HE:=Lib.hid (CJ.qQ (fun k hk => (H0.out.old k (.inl hk)).1) hgl HB3.out hB hE)
 clear hE
 refine ⟨_,rfl,?_⟩
 refine hK.out _ _ ?_
 clear hK K
 refine BG (by kernel_rfl) ?_
 go_wp2
 go_end0
 have hP:Dp L i = (⟨2,L.token,L.AB,L.yours,IntKind.u32.wrap (L.base + IntKind.u32.wrap i),L.expected,0,0,0,0,body⟩:Bz):=by unfold Dp; rw [BB.out]
 rw [hP]
 exact ⟨rfl,HE.out⟩
def Bj (L:Lk):Lk:=emit_ { L with idle:=if L.sent = 0 then 0 else L.idle,sent:=L.sent + 1 } (Dp L L.sent)
def Dq:Nat → Lk → Lk
 | 0,L => L
 | n + 1,L => if L.sent < L.queue.length ∧ L.sent < 8 then Dq n (Bj L) else L
def BL (L:Lk):Lk:=Dq ((8 - L.sent).toNat + 1) L
theorem CJ.same {w:World} {B g:Nat} {Ak Aj:Nat → Prop} {L:Lk} {q o:Value} (h:At w B Ak Aj g L q o):CJ w B Ak Aj g L q w :=
 ⟨o,⟨h.blk,h.queue,Kd.BV h.out (fun _ hk => .inl hk),h.low,fun k hk ho => ho.elim (h.apart k hk) (fun hn => by omega),fun k hk => (hk.elim (fun x => h.old k (.inl x)) (fun x => x.elim (fun y => h.old k (.inr y)) (fun hn => by omega)))⟩,Kept.refl _ _,Below.refl _ _⟩
theorem CJ.below {w w' w2:World} {B g:Nat} {Ak Aj:Nat → Prop} {L:Lk} {q:Value} (hB:B ≤ w.heap.size) (h:CJ w B Ak Aj g L q w') (hb:Below w'.heap.size w' w2):CJ w B Ak Aj g L q w2:=by
 obtain ⟨o,a,k1,b1⟩:=h
 have hs:=k1.1
 have hs2:=hb.size
 have a2:=a.below hb
 refine ⟨o,⟨a2.blk,a2.queue,Kd.BV a2.out (fun k hk => hk.elim (fun x => .inl x) (fun x => .inr ⟨x.1,by omega⟩)),a2.low,fun k hk ho => ?_,fun k hk => ?_⟩,k1.BQ (Kept.of_below hb (fun k => Aj k ∨ k = g)) (fun k hk => .inl hk),b1.trans (hb.mono (by omega))⟩
 ·rcases ho with ho | ho
  ·exact a.apart k hk (.inl ho)
  ·by_cases hkw:k < w'.heap.size
   ·exact a.apart k hk (.inr ⟨ho.1,hkw⟩)
   ·exact hkw (a.old k (.inl hk)).1
 ·rcases hk with hk | hk | hk
  ·exact a2.old k (.inl hk)
  ·exact a2.old k (.inr (.inl hk))
  ·have:=AQ a.blk
   by_cases hkw:k < w'.heap.size
   ·exact ⟨hk.2,(a.old k (.inr (.inr ⟨hk.1,hkw⟩))).2⟩
   ·exact ⟨hk.2,by omega⟩
theorem CJ.chain {w wr wk w':World} {B g:Nat} {Ak Aj:Nat → Prop} {L:Lk} {q:Value} (hq:∀ k,Ak k → k < w.heap.size) (hg:g < w.heap.size) (hBg:B ≤ g) (h2:Kept w wr (fun k => Aj k ∨ k = g)) (h3:Below B w wr) (hat:Go.Proofs.Ytnkkgofpifhoeaa.Steps.At g wr wk) (h:CJ wk B Ak (fun k => Aj k ∨ w.heap.size ≤ k ∧ k < wr.heap.size) g L q w'):CJ w B Ak Aj g L q w':=by
 obtain ⟨o,a,k1,b1⟩:=h
 have hs:=h2.1
 have hs2:=k1.1
 rw [hat.size] at a hs2
 refine ⟨o,⟨a.blk,a.queue,Kd.BV a.out (fun k hk => ?_),a.low,fun k hk ho => ?_,fun k hk => ?_⟩,(h2.BQ (Dx hat) (fun k hk => .inl (.inr hk))).BQ k1 (fun k hk => ?_),h3.trans ((hat.below (Below.refl _ _) hBg).trans b1)⟩
 ·rcases hk with (hk | hk) | hk
  ·exact .inl hk
  ·exact .inr ⟨hk.1,by omega⟩
  ·exact .inr ⟨by omega,hk.2⟩
 ·rcases ho with ho | ho
  ·exact a.apart k hk (.inl (.inl ho))
  ·have:=hq k hk; omega
 ·rcases hk with hk | hk | hk
  ·exact a.old k (.inl hk)
  ·exact a.old k (.inr (.inl (.inl hk)))
  ·exact ⟨hk.2,by omega⟩
 ·rcases hk with (hk | hk) | hk
  ·exact .inl (.inl hk)
  ·exact .inr hk.1
  ·exact .inl (.inr hk)
theorem KP {L:Lk} (h:L.Ok) (hd:L.sent < L.queue.length) (h8:L.sent < 8) (d:Int) (hdd:0 ≤ d ∧ d ≤ 1000):({ L with idle:=d,sent:=L.sent + 1 }:Lk).Ok:=by
 have:=h.sent
 exact ⟨h.own,h.phase,h.token,h.AB,h.yours,h.queue,h.rows,⟨by show 0 ≤ L.sent + 1; omega,by show L.sent + 1 ≤ (L.queue.length:Int); omega,by show L.sent + 1 ≤ 8; omega⟩,h.base,h.expected,hdd,h.out⟩
theorem IK {L:Lk} (h:L.Ok) (hd:L.sent < L.queue.length) (h8:L.sent < 8):(Bj L).Ok:=by
 refine PZ (KP h hd h8 _ ?_) _
 split
 ·omega
 ·exact h.idle
theorem FQ (L:Lk) (p:Bz):(emit_ L p).sent = L.sent:=by unfold emit_; split <;> rfl
theorem Di (L:Lk):(Bj L).sent = L.sent + 1:=FQ _ _
def FR (w:World) (B:Nat) (Ak Aj:Nat → Prop) (g:Nat) (L:Lk) (q:Value) (n:Nat) (wr:World):Prop:=∃ L':Lk,n = (8 - L'.sent).toNat ∧ Dq (n + 1) L' = BL L ∧ L'.Ok ∧ CJ w B Ak Aj g L' q wr
theorem Z38 {p:Prop} (h:p:=by
 go_wp2_with fail
 go_quiet (fail)
 go_wp2_with fail
 all_goals (go_end0; (refine ⟨rfl,?_⟩); (have hL:BL L = L':=by rw [← HF.out]; show (if L'.sent < L'.queue.length ∧ L'.sent < 8 then Dq gk (Bj L') else L') = L'; rw [if_neg (by rw [MF.out]; omega)]); (rw [hL]); exact CJ.below hB ⟨o',H1.out,H2.out,H3.out⟩ (Au (Below.refl _ _) _))):p:=h
theorem Z58 {p:Prop} (h:p:=by
 show Dq (gk - 1 + 1) (Bj L') = if L'.sent < L'.queue.length ∧ L'.sent < 8 then Dq (gk - 1 + 1) (Bj L') else L'
 rw [if_pos (by rw [MF.out]; omega)]):p:=h
theorem MM {w:World} {B g:Nat} {Ak Aj:Nat → Prop} {L:Lk} {q o:Value} (h:At w B Ak Aj g L q o) (hok:L.Ok) (hB:B ≤ w.heap.size) :
  Calls Try.prog 74 #[.pointer (some ⟨g,0,none⟩)] w fun e w' => e = .returned (.tuple #[]) ∧ CJ w B Ak Aj g (BL L) q w':=by
 have H:=Lib.hid h
 have OK:=Lib.hid hok
 clear h hok
 go_enter Try.func74,Try.ntmps74
 go_wp2_with fail
 go_loopg [] ((8 - L.sent).toNat) (fun n wr => FR w B Ak Aj g L q n wr)
 case atStart => exact ⟨L,rfl,rfl,OK.out,CJ.same H.out⟩
 case round =>
  obtain ⟨L',hn,hf,hok',o',h1,h2,h3⟩:=hrel
  obtain ⟨A6,c6,hq6,GY⟩:=Kd.Gy h1.queue
  have Xt:wr.cell? ⟨g,7,none⟩ = some (.int .i64 L'.sent):=(AA h1.blk 7).trans rfl
  have hc6:wr.cell? ⟨g,6,none⟩ = some (.slice A6 L'.queue.length c6):=(AA h1.blk 6).trans (by rw [hq6]; rfl)
  have hs:=hok'.sent
  have aA:=hok'.queue
  have H1:=Lib.hid h1
  have H2:=Lib.hid h2
  have H3:=Lib.hid h3
  have HF:=Lib.hid hf
  have HN:=Lib.hid hn
  have qU:=Lib.hid hok'
  clear h1 h2 h3 hf hn hok' hq6 GY
  generalize hse:L'.sent = se at *
  generalize VK:L'.queue.length = qn at *
  have MF:=Lib.hid hse
  have IL:wr.cell? ⟨g,10,none⟩ = some (.int .i64 L'.idle):=(AA H1.out.blk 10).trans rfl
  have AEg:=AL H1.out.blk 10
  have hf7:=AL H1.out.blk 7
  clear hse
  by_cases hg1:se < (qn:Int)
  ·have hd1:decide (se < (qn:Int)) = true:=by simp [hg1]
   by_cases hg2:se < 8
   ·skip
    by_cases hz:se = 0
    ·have hz9:(se == 0) = true:=by simp [hz]
     have HZ:=Lib.hid hz
     clear hz
     have yQ:=Lib.hid (KP qU.out (by rw [MF.out]; omega) (by rw [MF.out]; omega) 0 (by omega))
     have HI:=Lib.hid (⟨by omega,by omega⟩:0 ≤ se ∧ se < (L'.queue.length:Int))
     have yR:Go.Proofs.Ytnkkgofpifhoeaa.Steps.At g wr wr:=Steps.At.refl _ _
     go_wp2_with fail
     go_quiet (fail)
     go_wp2_with (first | ((with_reducible refine gate_ (.store 3 (.tmp 29) (.const (.int .i64 0))) rfl ?_); (refine AU (fun wz => At wz B Ak (fun k => Aj k ∨ w.heap.size ≤ k ∧ k < wr.heap.size) g { L' with idle:=0 } q o' ∧ Go.Proofs.Ytnkkgofpifhoeaa.Steps.At g wr wz) rfl rfl ⟨_,(by first | (go_simp; done) | (go_simp; rfl)),(H1.out.below (Au (Below.refl _ _) _)).EP 10 _ rfl rfl rfl,Steps.At.set (Steps.At.drewN (Steps.At.refl _ _) _) _ _⟩ (fun Ce hF => ?_)); (have K1:=Lib.hid hF); (clear hF); (have hk7:World.cell? _ ⟨g,7,none⟩ = some (.int .i64 se):=(AA K1.out.1.blk 7).trans (by rw [← MF.out]; rfl)); (have AEi:=AL K1.out.1.blk 7)) | ((with_reducible refine gate_ (.store 3 (.tmp 36) (.tmp 34)) rfl ?_); (refine AU (fun wz => At wz B Ak (fun k => Aj k ∨ w.heap.size ≤ k ∧ k < wr.heap.size) g { L' with idle:=0,sent:=L'.sent + 1 } q o' ∧ Go.Proofs.Ytnkkgofpifhoeaa.Steps.At g wr wz) rfl rfl ⟨_,(by have hz1:World.cell? _ ⟨g,7,none⟩ = some _:=(AA K1.out.1.blk 7).trans rfl; have hz2:=AL K1.out.1.blk 7; first | (go_simp; done) | (go_simp; rfl)),K1.out.1.EP 7 _ (by rw [← MF.out]; rfl) rfl rfl,Steps.At.set K1.out.2 _ _⟩ (fun BZ hF => ?_)); (have K2:=Lib.hid hF); (clear hF); (have hk7:World.cell? _ ⟨g,7,none⟩ = some (.int .i64 (se + 1)):=(AA K2.out.1.blk 7).trans (by rw [← MF.out]; rfl))) | (go_at_call 75; (refine (Pg (i:=se) K2.out.1 yQ.out (Nat.le_trans hB (by rw [K2.out.2.size]; exact H2.out.1)) HI.out.1 HI.out.2).mono ?_); (rintro e w9 ⟨rfl,hE⟩); (have HE:=Lib.hid (CJ.chain (fun k hk => (H.out.old k (.inl hk)).1) (AQ H.out.blk) H.out.low H2.out H3.out K2.out.2 hE)); (clear hE)))
     go_roundg (gk - 1)
     case measure => have:=HN.out; omega
     case rel =>
      refine ⟨Bj L',by rw [Di,MF.out]; have:=HN.out; omega,?_,IK qU.out (by rw [MF.out]; omega) (by rw [MF.out]; omega),?_⟩
      ·rw [← HF.out,show gk = gk - 1 + 1 by have:=HN.out; omega]
       exact Z58
      ·have e:=HE.out
       rw [show ({ L' with idle:=0,sent:=L'.sent + 1 }:Lk) = { L' with idle:=if L'.sent = 0 then 0 else L'.idle,sent:=L'.sent + 1 } by rw [if_pos (MF.out.trans HZ.out)]] at e
       rw [← MF.out] at e
       exact e
    ·have hz9:(se == 0) = false:=by simp [hz]
     have HZ:=Lib.hid hz
     clear hz
     have yQ:=Lib.hid (KP qU.out (by rw [MF.out]; omega) (by rw [MF.out]; omega) L'.idle qU.out.idle)
     have HI:=Lib.hid (⟨by omega,by omega⟩:0 ≤ se ∧ se < (L'.queue.length:Int))
     have yR:Go.Proofs.Ytnkkgofpifhoeaa.Steps.At g wr wr:=Steps.At.refl _ _
     go_wp2_with fail
     go_quiet (fail)
     go_wp2_with (first | ((with_reducible refine gate_ (.store 3 (.tmp 36) (.tmp 34)) rfl ?_); (refine AU (fun wz => At wz B Ak (fun k => Aj k ∨ w.heap.size ≤ k ∧ k < wr.heap.size) g { L' with sent:=L'.sent + 1 } q o' ∧ Go.Proofs.Ytnkkgofpifhoeaa.Steps.At g wr wz) rfl rfl ⟨_,(by first | (go_simp; done) | (go_simp; rfl)),(H1.out.below (Au (Below.refl _ _) _)).EP 7 _ (by rw [← MF.out]; rfl) rfl rfl,Steps.At.set (Steps.At.drewN (Steps.At.refl _ _) _) _ _⟩ (fun BZ hF => ?_)); (have K2:=Lib.hid hF); (clear hF); (have hk7:World.cell? _ ⟨g,7,none⟩ = some (.int .i64 (se + 1)):=(AA K2.out.1.blk 7).trans (by rw [← MF.out]; rfl))) | (go_at_call 75; (refine (Pg (i:=se) K2.out.1 yQ.out (Nat.le_trans hB (by rw [K2.out.2.size]; exact H2.out.1)) HI.out.1 HI.out.2).mono ?_); (rintro e w9 ⟨rfl,hE⟩); (have HE:=Lib.hid (CJ.chain (fun k hk => (H.out.old k (.inl hk)).1) (AQ H.out.blk) H.out.low H2.out H3.out K2.out.2 hE)); (clear hE)))
     go_roundg (gk - 1)
     case measure => have:=HN.out; omega
     case rel =>
      refine ⟨Bj L',by rw [Di,MF.out]; have:=HN.out; omega,?_,IK qU.out (by rw [MF.out]; omega) (by rw [MF.out]; omega),?_⟩
      ·rw [← HF.out,show gk = gk - 1 + 1 by have:=HN.out; omega]
       exact Z58
      ·have e:=HE.out
       rw [show ({ L' with sent:=L'.sent + 1 }:Lk) = { L' with idle:=if L'.sent = 0 then 0 else L'.idle,sent:=L'.sent + 1 } by rw [if_neg (fun h => HZ.out (MF.out.symm.trans h))]] at e
       rw [← MF.out] at e
       exact e
   ·have hd2:decide (se < 8) = false:=by simp [hg2]
    exact Z38
  ·have hd1:decide (se < (qn:Int)) = false:=by simp [hg1]
   exact Z38
end Go.Proofs.Ytnkkgofpifhoeaa.Lk
end
