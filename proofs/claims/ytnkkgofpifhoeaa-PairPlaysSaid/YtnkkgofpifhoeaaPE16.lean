/- What the laws of a pair are proved with: links and pairs in memory, what their methods do, what a pair keeps to (part 16). -/
import Derived.Test.YtnkkgofpifhoeaaPE15
set_option linter.unusedSimpArgs false
set_option linter.unusedVariables false
set_option maxRecDepth 100000
set_option maxHeartbeats 16000000
section
namespace Go.Proofs.Ytnkkgofpifhoeaa.Rf
open Go.RowKit Go.Proofs.Ytnkkgofpifhoeaa.Base Go.Proofs.Ytnkkgofpifhoeaa.Steps Go.Proofs.Ytnkkgofpifhoeaa.Lk Go.Proofs.YtnkkgofpifhoeaaW.PrintWords Go.Proofs.YtnkkgofpifhoeaaW.PrintLast
theorem dK {Y:Pr.Pr} {N:Nat} (h:Pr.Fz Y N):GG Y:=⟨fun s hs => (h.side s hs).fine.ok.out,h.way,fun s hs => (h.side s hs).AB⟩
theorem Js.refl (X:Pr.Pr):Js X X:=⟨fun _ _ => ⟨rfl,rfl⟩,rfl⟩
theorem Mc {X:Pr.Pr} {s:Nat} {d d':Pr.Sd} (he:d.end_ = d'.end_) (hl:d.log = d'.log):Js (X.set s d) (X.set s d'):=by
 refine ⟨fun t ht => ?_,rfl⟩
 by_cases hts:t = s
 ·subst hts; rw [Pr.Pr.Ae,Pr.Pr.Ae]; exact ⟨he,hl⟩
 ·rw [Pr.Pr.BP X hts,Pr.Pr.BP X hts]; exact ⟨rfl,rfl⟩
theorem JX {X:Pr.Pr} {s:Nat} {d:Pr.Sd} {L:Lk} {x:Pr.Ei} (he:d.end_ = L) (hl:d.log = (X.sd s).log ++ [x]):Js (X.set s d) (OA (X.set s (Pr.Ai (X.sd s) L)) s x):=by
 refine ⟨fun t ht => ?_,rfl⟩
 unfold OA
 by_cases hts:t = s
 ·subst hts; rw [Pr.Pr.Ae,Pr.Pr.Ae,Pr.Pr.Ae]; exact ⟨he,hl⟩
 ·rw [Pr.Pr.BP X hts,Pr.Pr.BP _ hts,Pr.Pr.BP X hts]; exact ⟨rfl,rfl⟩
theorem OI {e:Pr.Ei} {L:Lk} {k:Int} {b:List Int} (h1:e.kind = k) (h2:(e.AB,e.mine,e.peer,e.yours) = Pr.Cj L) (h3:e.body = b):e = QM L k b:=by
 obtain ⟨a,b',c,d,f,g⟩:=e
 unfold Pr.Cj at h2
 simp only [Prod.mk.injEq] at h1 h2 h3
 obtain ⟨q1,q2,q3,q4⟩:=h2
 unfold QM
 rw [h1,q1,q2,q3,q4,h3]
theorem SG {L L':Lk} (h:Pr.Same L L'):Pr.Cj L' = Pr.Cj L:=Pr.Eo h
section
variable {X:Pr.Pr} {N:Nat} (hI:Pr.Inv X N) {s:Nat} (hs:s < 2)
include hI hs
theorem ZN (h2:(X.sd s).end_.phase = 2):Js (X.set s (Pr.GI (X.sd s))) (OA (X.set s (Pr.Ai (X.sd s) (Aa (X.sd s).end_))) s (QM (X.sd s).end_ 2 [])):=by
 unfold Pr.GI
 rw [if_pos h2]
 refine JX rfl ?_
 show (X.sd s).log ++ [Pr.Ci (X.sd s) 2 []] = (X.sd s).log ++ [QM (X.sd s).end_ 2 []]
 congr 2
 exact OI rfl ((hI.p.side s hs).last h2) rfl
theorem ZO (b:List Int) (hE:Bq (X.sd s).end_ b.length = 0):Js (X.set s (Pr.GH (X.sd s) b)) (OA (X.set s (Pr.Ai (X.sd s) (Be (X.sd s).end_ b))) s (QM (Be (X.sd s).end_ b) 3 b)):=by
 have hd:=hI.p.side s hs
 obtain ⟨h2,-,-,-,hsm,-⟩:=Pr.O6 hd.fine.ok (hI.out s hs) b hE
 unfold Pr.GH
 rw [if_pos hE]
 refine JX rfl ?_
 show (X.sd s).log ++ [Pr.Ci (X.sd s) 3 b] = (X.sd s).log ++ [QM (Be (X.sd s).end_ b) 3 b]
 congr 2
 exact OI rfl ((hd.last h2).trans (show Pr.Cj (X.sd s).end_ = Pr.Cj (Be (X.sd s).end_ b) from (SG hsm).symm)) rfl
end
theorem Ul {L:Lk} {b:Int} {p:Bz} {L':Lk} {t:Tk} (hc:Pr.JA L b p L' t) (hl:p.body.length ≤ 1000):(t.down = true ∧ t.up = false ∧ t.body = []) ∨ (t.down = false ∧ t.up = true ∧ t.body = []) ∨ (t.down = false ∧ t.up = false ∧ t.body.length ≤ 1000):=by
 cases hc with
 | none _ => exact .inr (.inr ⟨rfl,rfl,Nat.zero_le _⟩)
 | up h1 hk ha hm hss hy => exact .inr (.inl ⟨rfl,rfl,rfl⟩)
 | learn h1 hk ha hm hss hy => exact .inr (.inr ⟨rfl,rfl,Nat.zero_le _⟩)
 | again h2 hk ha h0 hss hy => exact .inr (.inr ⟨rfl,rfl,Nat.zero_le _⟩)
 | last h2 hk ha ht => exact .inl ⟨rfl,rfl,rfl⟩
 | anew h2 hk ha ht hss hy => exact .inl ⟨rfl,rfl,rfl⟩
 | signal h2 hk ha hm k hkk hx hy => exact .inr (.inr ⟨rfl,rfl,by show (OV L p).length ≤ 1000; unfold OV; split <;> simp [hl]⟩)
theorem Z56 {p:Prop} (h:p:=by
 refine JX (X:={ X with way:=ws }) rfl ?_
 show (X.sd s).log ++ [Pr.Ci (X.sd s) 2 []] = (X.sd s).log ++ [QM (X.sd s).end_ 2 []]
 congr 2
 exact OI rfl (hd.last h2) rfl):p:=h
theorem ZP {X:Pr.Pr} {N:Nat} (hI:Pr.Inv X N) {s:Nat} (hs:s < 2) (b:Int) (p:Bz) (ws:List Pr.Fl):Js (({ X with way:=ws }:Pr.Pr).set s (Pr.DW (X.sd s) (Bf (X.sd s).end_ b p))) (takeD { X with way:=ws } s (X.sd s).end_ (Bf (X.sd s).end_ b p)):=by
 have hd:=hI.p.side s hs
 obtain ⟨hc,-⟩:=Pr.IA hd.fine.ok (hI.out s hs) b p
 generalize Bf (X.sd s).end_ b p = r at *
 obtain ⟨L',t⟩:=r
 have hc':Pr.JA (X.sd s).end_ b p L' t:=hc
 unfold Pr.DW takeD
 cases hc' with
 | none _ => exact Mc (X:={ X with way:=ws }) rfl rfl
 | up h1 hk ha hm hss hy =>
  refine JX (X:={ X with way:=ws }) rfl ?_
  show (X.sd s).log ++ [Pr.Ci (Pr.MV (Pr.Ai (X.sd s) L')) 1 []] = (X.sd s).log ++ [QM L' 1 []]
  have hkn:L'.known = true:=hss.known
  have ho:L'.own = (X.sd s).end_.own:=hss.own
  congr 2
  refine OI rfl ?_ rfl
  show ((X.sd s).AB,L'.token,(if L'.known = true then L'.AB else 0),(if L'.known = true then L'.yours else 0)) = Pr.Cj L'
  rw [hkn,if_pos rfl,if_pos rfl,hd.AB]
  unfold Pr.Cj
  rw [ho]
 | learn h1 hk ha hm hss hy => exact Mc (X:={ X with way:=ws }) rfl rfl
 | again h2 hk ha h0 hss hy => exact Mc (X:={ X with way:=ws }) rfl rfl
 | last h2 hk ha ht =>
  exact Z56
 | anew h2 hk ha ht hss hy =>
  exact Z56
 | signal h2 hk ha hm k hkk hx hy =>
  simp only [Bool.false_eq_true,if_false]
  have hkey:Pr.Cj L' = Pr.Cj (X.sd s).end_:=SG (L:=Pr.jr (X.sd s).end_ p k) hx
  by_cases hl:0 < (OV (X.sd s).end_ p).length
  ·rw [if_pos hl,if_pos hl]
   refine JX (X:={ X with way:=ws }) rfl ?_
   show (X.sd s).log ++ [Pr.Ci (X.sd s) 4 (OV (X.sd s).end_ p)] = (X.sd s).log ++ [QM L' 4 (OV (X.sd s).end_ p)]
   congr 2
   exact OI rfl ((hd.last h2).trans hkey.symm) rfl
  ·rw [if_neg hl,if_neg hl]
   exact Mc (X:={ X with way:=ws }) rfl rfl
theorem SH {Y:Pr.Pr} {s:Nat} (h:(Y.sd s).end_.out = []):Js (Pr.BC Y s) Y:=by
 unfold Pr.BC
 rw [h]
 refine ⟨fun t ht => ?_,rfl⟩
 show ((Y.set s { Y.sd s with end_:=Fq (Y.sd s).end_ }).sd t).end_ = _ ∧ ((Y.set s { Y.sd s with end_:=Fq (Y.sd s).end_ }).sd t).log = _
 by_cases hts:t = s
 ·subst hts
  rw [Pr.Pr.Ae]
  refine ⟨?_,rfl⟩
  show ({ (Y.sd t).end_ with out:=[] }:Lk) = _
  rw [← h]
 ·rw [Pr.Pr.BP Y hts]; exact ⟨rfl,rfl⟩
theorem Js.trans {X Y Z:Pr.Pr} (h:Js X Y) (k:Js Y Z):Js X Z:=⟨fun s hs => ⟨(h.e s hs).1.trans (k.e s hs).1,(h.e s hs).2.trans (k.e s hs).2⟩,h.y.trans k.y⟩
theorem rdo {S:Nat → Prop} {w:World} (hS:∀ k,S k → k < w.heap.size) {X:Pr.Pr} {N:Nat} (hI:Pr.Inv X N) (hN:N ≤ 900000) (hw:∀ s,s < 2 → Pr.Wn (X.sd s).end_) {cs:Array Value} (hP:RP S w X cs) (a:Pr.Act) (Ab:Option Addr) (cb:Nat) (hb:Gl S w Ab a.body) (hbl:a.body.length ≤ 10000) :
  Calls Try.prog 46 #[.agg cs,.int .i64 a.kind,.int .i64 a.side,.int .i64 a.i,.slice Ab a.body.length cb] w fun e w' => (∃ cs',e = .returned (.tuple #[.agg cs',.int .i64 (Pr.Yj X a)]) ∧ RP S w' (Pr.P8 X a) cs') ∧ Below w.heap.size w w':=by
 unfold Pr.Yj Pr.P8
 by_cases hbad:Pr.LX X a = 0
 rotate_left
 ·rw [if_neg hbad,if_neg hbad]
  unfold Pr.LX at hbad ⊢
  split at hbad
  ·rename_i h; rw [if_pos h]; exact ZL hS hP _ _ _ h _ _ _
  rename_i h1
  rw [if_neg h1]
  split at hbad
  ·rename_i h; rw [if_pos h]; exact ZM hS hP _ _ _ ⟨by omega,by omega⟩ h.2 _ _ _
  rename_i h2
  rw [if_neg h2]
  split at hbad
  ·rename_i h; rw [if_pos h]; exact lI hS hP _ _ _ ⟨by omega,by omega⟩ h.2 _ _ _
  ·exact absurd rfl hbad
 rw [if_pos hbad,if_pos hbad]
 obtain ⟨⟨hk1,hk8⟩,hsd,hi⟩:=Pr.Gg hbad
 have hT:=dK (Pr.MX hI (by omega) hbad)
 have hY:=hI.p.way
 by_cases h6:6 ≤ a.kind
 ·obtain ⟨hi0,hil⟩:=hi h6
  obtain ⟨i,hai⟩:∃ i:Nat,a.i = i:=⟨a.i.toNat,(Int.toNat_of_nonneg hi0).symm⟩
  have hlt:i < X.way.length:=by rw [hai] at hil; simpa using hil
  have hfl:=hI.p.fl _ (show X.way.getD i Pr.DI ∈ X.way from by rw [List.getD_eq_getElem?_getD,List.getElem?_eq_getElem hlt]; exact List.getElem_mem hlt)
  have hE:Pr.Jh X a = 0:=by unfold Pr.Jh; rw [if_neg (by omega),if_neg (by omega),if_neg (by omega)]
  rw [hE]
  have hin:a.i.toNat = i:=by rw [hai]; simp
  by_cases k6:a.kind = 6
  ·have hA:Pr.Fv X a = Pr.Gn X i:=by unfold Pr.Fv; rw [if_neg (by omega),if_neg (by omega),if_neg (by omega),if_neg (by omega),if_neg (by omega),if_pos k6,hin]
   rw [hA] at hT ⊢
   rw [k6,hai]
   obtain ⟨s,hs⟩:∃ s:Nat,s = (X.way.getD i Pr.DI).dst.toNat:=⟨_,rfl⟩
   have hd:=hfl.dst
   have hs2:s < 2:=by omega
   have hds:(X.way.getD i Pr.DI).dst = (s:Int):=by omega
   have hsi:=hI.p.side s hs2
   have hc:=(Pr.IA hsi.fine.ok (hI.out s hs2) (X.way.getD i Pr.DI).AB (X.way.getD i Pr.DI).p).1
   refine uC hS hP _ hT _ i hlt hY Ab _ cb s hs2 hds hsi.fine.ok (Nat.le_trans hsi.len (by omega)) (by have:=hfl.AB; omega) hfl.good _ rfl (Ul hc hfl.good.len) ?_
   unfold Pr.Gn
   rw [← hs]
   exact ZP hI hs2 _ _ _
  by_cases k7:a.kind = 7
  ·have hA:Pr.Fv X a = { X with way:=X.way.eraseIdx i }:=by unfold Pr.Fv; rw [if_neg (by omega),if_neg (by omega),if_neg (by omega),if_neg (by omega),if_neg (by omega),if_neg k6,if_pos k7,hin]
   rw [hA] at hT ⊢
   rw [k7,hai]
   exact uD hS hP _ hT _ i hlt hY Ab _ cb (Js.refl _)
  ·have k8:a.kind = 8:=by omega
   have hA:Pr.Fv X a = Pr.GU X (X.way.getD i Pr.DI):=by unfold Pr.Fv; rw [if_neg (by omega),if_neg (by omega),if_neg (by omega),if_neg (by omega),if_neg (by omega),if_neg k6,if_neg k7,hin]
   rw [hA] at hT ⊢
   rw [k8,hai]
   by_cases hf:X.way.length < 1024
   ·exact uF hS hP _ hT _ i hlt hY hf Ab _ cb (by unfold Pr.GU; rw [if_pos hf]; exact Js.refl _)
   ·exact lG hS hP _ hT _ i hlt hY hf Ab _ cb (by unfold Pr.GU; rw [if_neg hf]; exact Js.refl _)
 have hsv:=hsd (by omega)
 obtain ⟨s,hs⟩:∃ s:Nat,a.side = s:=⟨a.side.toNat,by omega⟩
 have hst:a.side.toNat = s:=by rw [hs]; simp
 have hs2:s < 2:=by omega
 have hsi:=hI.p.side s hs2
 have hok:=hsi.fine.ok
 have KY:(X.sd s).log.length ≤ 1000000:=Nat.le_trans hsi.len (by omega)
 by_cases k1:a.kind = 1
 ·have hA:Pr.Fv X a = X.set s (Pr.Ai (X.sd s) (DN (X.sd s).end_)):=by unfold Pr.Fv; rw [if_pos k1,hst]
  have hE:Pr.Jh X a = EK (X.sd s).end_:=by unfold Pr.Jh; rw [if_pos k1,hst]
  rw [hA] at hT ⊢
  rw [hE,k1,hs]
  exact tu hS hP _ hT s hs2 _ Ab _ cb hok (Js.refl _)
 by_cases k2:a.kind = 2
 ·have hA:Pr.Fv X a = X.set s (Pr.GI (X.sd s)):=by unfold Pr.Fv; rw [if_neg k1,if_pos k2,hst]
  have hE:Pr.Jh X a = 0:=by unfold Pr.Jh; rw [if_neg k1,if_neg (by omega),if_neg (by omega)]
  rw [hA] at hT ⊢
  rw [hE,k2,hs]
  by_cases h2:(X.sd s).end_.phase = 2
  ·exact lD hS hP _ hT s hs2 _ Ab _ cb hok KY (by simp [h2]) (ZN hI hs2 h2)
  ·refine uB hS hP _ hT s hs2 _ Ab _ cb hok KY (by simp [h2]) ?_
   unfold Pr.GI
   rw [if_neg h2]
   exact Js.refl _
 by_cases k3:a.kind = 3
 ·have hA:Pr.Fv X a = X.set s (Pr.GH (X.sd s) a.body):=by unfold Pr.Fv; rw [if_neg k1,if_neg k2,if_pos k3,hst]
  have hE:Pr.Jh X a = Bq (X.sd s).end_ a.body.length:=by unfold Pr.Jh; rw [if_neg k1,if_pos k3,hst]
  rw [hA] at hT ⊢
  rw [hE,k3,hs]
  by_cases h0:Bq (X.sd s).end_ a.body.length = 0
  ·exact lH hS hP _ hT s hs2 a Ab cb hb hbl hok (hw s hs2) KY (by simp [h0]) (ZO hI hs2 _ h0)
  ·refine uG hS hP _ hT s hs2 a Ab cb hb hbl hok (hw s hs2) KY (by simp [h0]) ?_
   unfold Pr.GH
   rw [if_neg h0]
   exact Js.refl _
 by_cases k4:a.kind = 4
 ·have hA:Pr.Fv X a = X.set s (Pr.Ai (X.sd s) (Dz (X.sd s).end_)):=by unfold Pr.Fv; rw [if_neg k1,if_neg k2,if_neg k3,if_pos k4,hst]
  have hE:Pr.Jh X a = 0:=by unfold Pr.Jh; rw [if_neg k1,if_neg k3,if_neg (by omega)]
  rw [hA] at hT ⊢
  rw [hE,k4,hs]
  exact uA hS hP _ hT s hs2 _ Ab _ cb hok (Js.refl _)
 have k5:a.kind = 5:=by omega
 have hA:Pr.Fv X a = X.set s (Pr.C9 (X.sd s)):=by unfold Pr.Fv; rw [if_neg k1,if_neg k2,if_neg k3,if_neg k4,if_pos k5,hst]
 have hE:Pr.Jh X a = if (X.sd s).AB = 4294967295 then 2 else 0:=by unfold Pr.Jh; rw [if_neg k1,if_neg k3,if_pos k5,hst]
 rw [hA] at hT ⊢
 rw [hE,k5,hs]
 have lK:=hsi.AB
 have hob:=hok.own
 by_cases hm:(X.sd s).AB = 4294967295
 ·rw [if_pos hm]
  have hr:Pr.C9 (X.sd s) = X.sd s:=by unfold Pr.C9; rw [if_pos hm]
  rw [hr]
  have hse:X.set s (X.sd s) = X:=by
   unfold Pr.Pr.set
   congr 1
   funext t
   split
   ·rename_i h; rw [h]
   ·rfl
  rw [hse]
  have hd:Js (Pr.BC (Pr.BC X 0) 1) X:=(SH (by rw [IZ X 0 1 (by decide)]; exact hI.out 1 (by decide))).trans (SH (hI.out 0 (by decide)))
  refine (dJ hS hP s hs2 _ (by rw [← lK]; simp [hm]) Ab _ cb).mono ?_
  rintro e w' ⟨⟨cs',he,hp⟩,hbl⟩
  exact ⟨⟨cs',he,hp.Xa hd⟩,hbl⟩
 ·rw [if_neg hm]
  refine uI hS hP _ hT s hs2 _ Ab _ cb hok KY (by rw [← lK]; simp [hm]) ⟨hob.1,by omega⟩ ?_
  unfold Pr.C9
  rw [if_neg hm]
  refine JX (by rw [← lK]) ?_
  rw [← lK]
def newR:Array Value:=#[.int .u32 1,.int .i64 0,.int .u32 0,.int .u32 0,.int .u32 0,.bool false,.slice none 0 0,.int .i64 0,.int .u32 0,.int .u32 0,.int .i64 0,.slice none 0 0,.int .u32 1,.int .i64 0,.int .u32 0,.int .u32 0,.int .u32 0,.bool false,.slice none 0 0,.int .i64 0,.int .u32 0,.int .u32 0,.int .i64 0,.slice none 0 0,.slice none 0 0,.slice none 0 0,.slice none 0 0]
theorem lM (S:Nat → Prop) (w:World):RP S w Pr.Ip newR:=by
 refine ⟨rfl,by kernel_rfl,fun s hs => ⟨0,none,0,none,0,⟨FK.L.nil _ _ _ _,Nat.le_refl _,FK.L.nil _ _ _ _,fun h => absurd rfl h⟩,fun j v hv => ?_⟩,fun s hs => ⟨none,0,?_,Nat.le_refl _,FK.L.nil _ _ _ _⟩,⟨none,0,rfl,Nat.le_refl _,FK.L.nil _ _ _ _⟩⟩
 ·have hj:j < 12:=(List.getElem?_eq_some_iff.1 hv).1
  have h0:s = 0 ∨ s = 1:=by omega
  rw [← hv]
  rcases h0 with rfl | rfl <;> (
   match j,hj with
   | 0,_ => rfl
   | 1,_ => rfl
   | 2,_ => rfl
   | 3,_ => rfl
   | 4,_ => rfl
   | 5,_ => rfl
   | 6,_ => rfl
   | 7,_ => rfl
   | 8,_ => rfl
   | 9,_ => rfl
   | 10,_ => rfl
   | 11,_ => rfl)
 ·have h0:s = 0 ∨ s = 1:=by omega
  rcases h0 with rfl | rfl <;> rfl
theorem AAH (w:World):Calls Try.prog 45 #[] w fun e w' => e = .returned (.agg newR) ∧ Below w.heap.size w w':=by
 have Ib:=Try.underlying84
 have Iq:=Try.underlying79
 have Df:=Try.underlying78
 go_enter Try.func45,Try.ntmps45
 go_wp2_with (first | ((with_reducible refine gate_ (.store 84 (.tmp 1) (.tmp 2)) rfl ?_); (have F2:=Fm.two w #[.int .u32 0,.int .i64 0,.int .u32 0,.int .u32 0,.int .u32 0,.bool false,.slice none 0 0,.int .i64 0,.int .u32 0,.int .u32 0,.int .i64 0,.slice none 0 0,.int .u32 0,.int .i64 0,.int .u32 0,.int .u32 0,.int .u32 0,.bool false,.slice none 0 0,.int .i64 0,.int .u32 0,.int .u32 0,.int .i64 0,.slice none 0 0,.slice none 0 0,.slice none 0 0,.slice none 0 0] #[.int .u32 0,.int .i64 0,.int .u32 0,.int .u32 0,.int .u32 0,.bool false,.slice none 0 0,.int .i64 0,.int .u32 0,.int .u32 0,.int .i64 0,.slice none 0 0,.int .u32 0,.int .i64 0,.int .u32 0,.int .u32 0,.int .u32 0,.bool false,.slice none 0 0,.int .i64 0,.int .u32 0,.int .u32 0,.int .i64 0,.slice none 0 0,.slice none 0 0,.slice none 0 0,.slice none 0 0] 84 84); (obtain ⟨w0,hw0⟩:∃ w0,w0 = (w.alloc (.cells #[.int .u32 0,.int .i64 0,.int .u32 0,.int .u32 0,.int .u32 0,.bool false,.slice none 0 0,.int .i64 0,.int .u32 0,.int .u32 0,.int .i64 0,.slice none 0 0,.int .u32 0,.int .i64 0,.int .u32 0,.int .u32 0,.int .u32 0,.bool false,.slice none 0 0,.int .i64 0,.int .u32 0,.int .u32 0,.int .i64 0,.slice none 0 0,.slice none 0 0,.slice none 0 0,.slice none 0 0] 84)).alloc (.cells #[.int .u32 0,.int .i64 0,.int .u32 0,.int .u32 0,.int .u32 0,.bool false,.slice none 0 0,.int .i64 0,.int .u32 0,.int .u32 0,.int .i64 0,.slice none 0 0,.int .u32 0,.int .i64 0,.int .u32 0,.int .u32 0,.int .u32 0,.bool false,.slice none 0 0,.int .i64 0,.int .u32 0,.int .u32 0,.int .i64 0,.slice none 0 0,.slice none 0 0,.slice none 0 0,.slice none 0 0] 84):=⟨_,rfl⟩); (rw [← hw0] at F2 ⊢); (clear hw0); (have F:=Lib.hid F2); (clear F2); (refine F.out.st 1 rfl rfl 84 (.tmp 1) (.tmp 2) rfl rfl rfl rfl rfl (by kernel_rfl) rfl (by kernel_rfl) ?_); (intro w1 hF hA); (have F1:=Lib.hid hF); (clear hF hA F)) | ((with_reducible refine gate_ (.store 24 (.tmp 5) (.const (.int .u32 1))) rfl ?_); (refine F1.out.st1 1 (v:=.int .u32 1) rfl rfl 24 (.tmp 5) (.const (.int .u32 1)) rfl rfl rfl rfl rfl rfl (by decide) (by kernel_rfl) rfl ?_); (intro w2 hF hA); (have F2:=Lib.hid hF); (clear hF hA F1)) | ((with_reducible refine gate_ (.store 24 (.tmp 8) (.const (.int .u32 1))) rfl ?_); (refine F2.out.st1 1 (v:=.int .u32 1) rfl rfl 24 (.tmp 8) (.const (.int .u32 1)) rfl rfl rfl rfl rfl rfl (by decide) (by kernel_rfl) rfl ?_); (intro w3 hF hA); (have F3:=Lib.hid (show Fm w _ [(w.heap.size,84),(w.heap.size + 1,84)] [#[.int .u32 0,.int .i64 0,.int .u32 0,.int .u32 0,.int .u32 0,.bool false,.slice none 0 0,.int .i64 0,.int .u32 0,.int .u32 0,.int .i64 0,.slice none 0 0,.int .u32 0,.int .i64 0,.int .u32 0,.int .u32 0,.int .u32 0,.bool false,.slice none 0 0,.int .i64 0,.int .u32 0,.int .u32 0,.int .i64 0,.slice none 0 0,.slice none 0 0,.slice none 0 0,.slice none 0 0],newR] from hF)); (clear hF hA F2)) | ((with_reducible refine AO (N:=9) rfl ?_); (refine F3.out.ld 1 rfl 84 (.tmp 1) rfl rfl rfl rfl Try.underlying84 rfl (by kernel_rfl) ?_)) | ((with_reducible refine gate_ (.store 84 (.tmp 0) (.tmp 9)) rfl ?_); (refine F3.out.st 0 rfl rfl 84 (.tmp 0) (.tmp 9) rfl rfl rfl rfl rfl (by kernel_rfl) rfl (by kernel_rfl) ?_); (intro w4 hF hA); (have F4:=Lib.hid hF); (clear hF hA F3)))
 have Dt:=run_loadVar_row (P:=Try.prog) w4 _ 84 84 _ (0,0) _ (F4.out.get 0 rfl rfl) Try.underlying84 rfl (by kernel_rfl)
 refine bodyPost_ret (v:=_) (Pk.results_cell Try.results45 _ _ rfl Dt) rfl ?_
 exact ⟨rfl,F4.out.bw⟩
end Go.Proofs.Ytnkkgofpifhoeaa.Rf
end
section
namespace Go.Proofs.Ytnkkgofpifhoeaa.Pr
open Go.RowKit Go.Proofs.Ytnkkgofpifhoeaa.Base Go.Proofs.Ytnkkgofpifhoeaa.Steps Go.Proofs.Ytnkkgofpifhoeaa.Lk Go.Proofs.Ytnkkgofpifhoeaa.Fg Go.Proofs.YtnkkgofpifhoeaaW.PrintWords Go.Proofs.YtnkkgofpifhoeaaW.PrintLast
def QU (N:Nat):Kd (Ei × Bool) where
 sz:=6
 E:=[5]
 K:=fun w x cs => Fb.K w x.1 cs
 M:=fun w base ok x cs => Fb.M w base (fun k => ok k ∧ (x.2 = true → N ≤ k)) x.1 cs
 Gw:=fun h => Fb.Gw h
 Gx:=fun h => Fb.Gx h
 Et:=fun hb h => Fb.Et hb h
 Dw:=fun h => Fb.Dw h
 BU:=fun h hm => Fb.BU (fun k hk => ⟨h k hk.1,hk.2⟩) hm
 CW:=fun h => Fb.BU (fun k hk => ⟨⟨hk.1.1,hk.2⟩,hk.1.2⟩) (Fb.CW h)
 EI:=fun hm h => Fb.EI (fun k hk => hm k hk.1) h
 Eu:=fun hb h => Fb.Eu hb h
def TD (l:List Ei) (i:Nat):List (Ei × Bool):=(l.take i).map (fun x => (x,true)) ++ (l.drop i).map (fun x => (x,false))
theorem QV (l:List Ei) (i:Nat):(TD l i).length = l.length:=by unfold TD; simp; omega
theorem SI (l:List Ei):TD l 0 = l.map (fun x => (x,false)):=by simp [TD]
theorem dL (l:List Ei):TD l l.length = l.map (fun x => (x,true)):=by simp [TD]
def Gs:Ei:=⟨0,0,0,0,0,[]⟩
theorem dM (l:List Ei) (i:Nat) (hi:i < l.length):(TD l i).getD i (Gs,false) = (l.getD i Gs,false):=by
 unfold TD
 rw [List.getD_eq_getElem?_getD,List.getElem?_append_right (by simp; omega),List.getD_eq_getElem?_getD]
 have:i - (List.map (fun x => (x,true)) (l.take i)).length = 0:=by simp; omega
 rw [this,List.getElem?_map,List.getElem?_drop,Nat.add_zero,List.getElem?_eq_getElem hi]
 rfl
theorem Vg (l:List Ei) (i:Nat) (hi:i < l.length):(TD l i).set i (l.getD i Gs,true) = TD l (i + 1):=by
 unfold TD
 have hlen:(List.map (fun x => (x,true)) (l.take i)).length = i:=by simp; omega
 rw [List.set_append_right _ _ (by omega),hlen,Nat.sub_self]
 have hd:l.drop i = l.getD i Gs :: l.drop (i + 1):=by
  rw [List.getD_eq_getElem?_getD,List.getElem?_eq_getElem hi]; exact (List.drop_eq_getElem_cons hi)
 have ht:l.take (i + 1) = l.take i ++ [l.getD i Gs]:=by
  rw [List.take_add_one,List.getD_eq_getElem?_getD,List.getElem?_eq_getElem hi]; rfl
 rw [hd,ht]
 simp
theorem OJ {w:World} {B N:Nat} {ok:Nat → Prop} {v:Value} {l:List Ei} {i:Nat} (h:(QU N).R 67 w B ok v (TD l i)):∃ A c,v = .slice A l.length c:=by
 obtain ⟨A,c,hv⟩:=Kd.Am h
 rw [QV] at hv
 exact ⟨A,c,hv⟩
theorem ZQ {w:World} {B N:Nat} {ok:Nat → Prop} {v:Value} {l:List Ei} (h:(QU N).R 67 w B ok v (TD l l.length)) (hv:∀ k,v.ownBlock = some k → N ≤ k):Fb.R 67 w B (fun k => N ≤ k) v l:=by
 rw [dL] at h
 obtain ⟨h0,inner,ho,hr⟩:=h
 refine ⟨hv,inner,by rw [List.length_map] at ho; exact ho,⟨by have:=hr.1; rw [List.length_map] at this; exact this,fun j p hj => ?_⟩⟩
 have:=hr.2 j (p,true) (by simp [hj])
 exact Fb.BU (fun k hk => ⟨hk.2 rfl,hk.1.2⟩) this
theorem SK {w:World} {B:Nat} {ok:Nat → Prop} {v:Value} {l:List Ei} (h:Fb.R 67 w B ok v l):∃ A c,v = .slice A l.length c ∧ Dh (fun (x:Ei × Bool) cs => x.2 = false ∧ Fb.M w B ok x.1 cs) 6 w A l.length (l.map (fun x => (x,false))):=by
 obtain ⟨h0,inner,ho,hr⟩:=h
 refine Jm (R:=fun (x:Ei × Bool) cs => x.2 = false ∧ Fb.M w B ok x.1 cs) ho ⟨by have:=hr.1; rw [List.length_map]; exact this,fun j p hj => ?_⟩ (by simp)
 rw [List.getElem?_map] at hj
 obtain ⟨q,hq,hp⟩:=Option.map_eq_some_iff.1 hj
 subst hp
 exact ⟨rfl,Fb.BU (fun k hk => hk.1) (hr.2 j q hq)⟩
def gV (w:World) (B:Nat) (okA:Nat → Prop) (v:Value) (l:List Ei) (i:Nat) (wr:World):Prop:=(QU w.heap.size).R 67 wr B okA v (TD l i) ∧ Below w.heap.size w wr
theorem gV.elem {w wr:World} {B n c i:Nat} {okA:Nat → Prop} {A:Option Addr} {l:List Ei} (h:gV w B okA (.slice A n c) l i wr) (hi:i < l.length) :
  ∃ g Ab cb,A = some ⟨g,0,none⟩ ∧ n = l.length ∧ (Kd.int .u8).R 5 wr B (fun k => okA k ∧ k ≠ g) (.slice Ab (l.getD i Gs).body.length cb) (l.getD i Gs).body ∧ (∀ j u,(D8 (l.getD i Gs) (.slice Ab (l.getD i Gs).body.length cb))[j]? = some u → wr.cell? ⟨g,(i:Int).toNat * 6 + j,none⟩ = some u) ∧ ∀ j,wr.frozen? ⟨g,(i:Int).toNat * 6 + j,none⟩ = false:=by
 obtain ⟨hR,hb⟩:=h
 obtain ⟨hn,hnc,hC⟩:=Kd.Bi hR
 rw [QV] at hn
 obtain ⟨gx,cap,he,_⟩:=Kd.Jt hR (by rw [QV]; omega)
 injection he with h1 h2 h3
 subst h1
 obtain ⟨cs,hl,hM,hc,hf⟩:=Kd.NI hR (Gs,false) (i:Int) (by omega) (by omega)
 rw [show ((i:Int).toNat) = i from rfl,dM l i hi] at hM
 obtain ⟨b,hcs,hRb⟩:=Jp.1 hM
 obtain ⟨Ab,cb,hbv⟩:=Kd.Am hRb
 subst hbv
 subst hcs
 exact ⟨gx,Ab,cb,rfl,hn,Kd.BV hRb (fun k hk => hk.1),hc,hf⟩
theorem dN {w:World} {B gp:Nat} {ge:Nat → Nat} {own:Nat → Nat → Prop} {X:Pr} {lv:Nat → Value} {wv:Value} (h:Dj w B gp ge own X lv wv) (s:Nat) (hs:s < 2):Calls Try.prog 47 #[.pointer (some ⟨gp,0,none⟩),.int .i64 s] w fun e w' => e = .returned (.int .i64 (X.sd s).end_.queue.length) ∧ w = w':=by
 have h0:s = 0 ∨ s = 1:=by omega
 have hc0:w.cell? ⟨gp,0,none⟩ = some (.pointer (some ⟨ge 0,0,none⟩)):=(AA h.blk 0).trans rfl
 have Bh:w.cell? ⟨gp,9,none⟩ = some (.pointer (some ⟨ge 1,0,none⟩)):=(AA h.blk 9).trans rfl
 have H:=Lib.hid h
 clear h hs
 rcases h0 with rfl | rfl
 ·go_enter Try.func47,Try.ntmps47
  go_wp2_with (first | (go_at_call 81; (have hc:=LQ w gp 0 (by decide)); rw [show ((0:Nat):Int) = 0 from rfl] at hc; (with_reducible refine hc.mono ?_); clear hc; rintro e w9 ⟨rfl,rfl⟩) | (go_at_call 31; (have hc:=Ot (H.out.e 0 (by decide))); (with_reducible refine hc.mono ?_); clear hc; rintro e w9 ⟨rfl,rfl⟩))
  all_goals (go_ret; exact ⟨rfl,rfl⟩)
 ·go_enter Try.func47,Try.ntmps47
  go_wp2_with (first | (go_at_call 81; (have hc:=LQ w gp 1 (by decide)); rw [show ((1:Nat):Int) = 1 from rfl] at hc; (with_reducible refine hc.mono ?_); clear hc; rintro e w9 ⟨rfl,rfl⟩) | (go_at_call 31; (have hc:=Ot (H.out.e 1 (by decide))); (with_reducible refine hc.mono ?_); clear hc; rintro e w9 ⟨rfl,rfl⟩))
  all_goals (go_ret; exact ⟨rfl,rfl⟩)
theorem Z46 {p:Prop} (h:p:=by
 have hie:i = n:=by have:=dO.out; omega
 subst hie
 go_wp2_with fail
 all_goals (go_ret; refine ⟨_,rfl,?_,HF.out.2⟩)
 have hh:=HF.out.1
 have hx:=HN.out
 have ho:=HO.out
 rw [← hx] at hh ho
 have hy:=ZQ hh ho
 rw [hx] at hy
 exact hy):p:=h
theorem uJ {w:World} {B gp:Nat} {ge:Nat → Nat} {own:Nat → Nat → Prop} {X:Pr} {lv:Nat → Value} {wv:Value} (h:Dj w B gp ge own X lv wv) (hll:(X.sd 0).log.length ≤ 1000000) (hbd:∀ x ∈ (X.sd 0).log,x.body.length ≤ 1000000):Calls Try.prog 38 #[.pointer (some ⟨gp,0,none⟩),.int .i64 0] w fun e w' => ∃ v,e = .returned v ∧ Fb.R 67 w' B (fun k => w.heap.size ≤ k) v (X.sd 0).log ∧ Below w.heap.size w w':=by
 obtain ⟨Al,cl,hlv,hrr⟩:=SK (h.l 0 (by decide))
 have hcl:w.cell? ⟨gp,2,none⟩ = some (.slice Al (X.sd 0).log.length cl):=(AA h.blk 2).trans (by rw [← hlv]; rfl)
 have H:=Lib.hid h
 have HRR:=Lib.hid hrr
 have Gv:=Lib.hid hll
 have BB:=Lib.hid hbd
 clear h hlv hrr hll hbd
 generalize hl0:(X.sd 0).log = l at *
 have bJ:=Lib.hid hl0
 clear hl0
 generalize hnl:l.length = n at *
 have HN:=Lib.hid hnl
 clear hnl
 go_enter Try.func38,Try.ntmps38
 go_wp2_with (first | (go_at_call 81; (have hc:=LQ w gp 0 (by decide)); rw [show ((0:Nat):Int) = 0 from rfl] at hc; (with_reducible refine hc.mono ?_); clear hc; rintro e w9 ⟨rfl,rfl⟩) | ((with_reducible refine AO (N:=18) rfl ?_); (refine Kd.BN (QU w.heap.size) (Rr:=fun (x:Ei × Bool) cs => x.2 = false ∧ Fb.M w B (own 3) x.1 cs) (w0:=w) (W:=w) B rfl (.const (.slice none 0 0)) (.tmp 17) 64 67 (.agg #[.int .i64 0,.int .u32 0,.int .u32 0,.int .u32 0,.int .u32 0,.slice none 0 0]) 48 rfl Try.underlying64 LU rfl (show 0 < 6 by decide) (by decide) (.slice none 0 0) [] (l.map (fun x => (x,false))) Al n cl (fun k => own 3 k ∨ w.heap.size ≤ k) (own 3) rfl rfl (Kd.D5 _ _ _ _ _) HRR.out (fun x cs hx => Fb.BU (fun k hk => ⟨hk,fun hf => absurd (hx.1.symm.trans hf) (by decide)⟩) hx.2) (fun k hk => ⟨.inl hk,by simp [Value.ownBlock]⟩) (fun k hk => .inr hk) (Below.refl _ _) H.out.hB (by have:=Gv.out; simp; omega) ?_); (intro v1 w1 hR hbl hg hat); (rw [List.nil_append,← SI] at hR); (have HO:=Lib.hid (show ∀ k,v1.ownBlock = some k → w.heap.size ≤ k from fun k hk => by rcases hat with hat | ⟨b,hat,hb⟩; (rw [hat] at hk; simp [Value.ownBlock] at hk); (rw [hat] at hk; injection hk with hk; omega))); (have Pz:=Lib.hid (show gV w B (fun k => own 3 k ∨ w.heap.size ≤ k) v1 l 0 w1 from ⟨hR,⟨hg.os,hg.tape,hg.output,hg.size,fun k hk => hg.block k hk (by simp [Value.ownBlock])⟩⟩)); (obtain ⟨A1,c1,hv1⟩:=OJ hR); (rw [HN.out] at hv1); (subst hv1); (clear hR hbl hg hat)))
 go_loopg [21] n (fun m v wr => ∃ i:Nat,m = n - i ∧ i ≤ n ∧ v = .int .i64 (i:Int) ∧ gV w B (fun k => own 3 k ∨ w.heap.size ≤ k) (.slice A1 n c1) l i wr)
 case atStart => exact ⟨0,rfl,Nat.zero_le _,rfl,Pz.out⟩
 case round =>
  obtain ⟨i,hm,hin,rfl,hF⟩:=hrel
  have HM:=Lib.hid hm
  have dO:=Lib.hid hin
  have HF:=Lib.hid hF
  clear hm hin hF
  have oG:=Gv.out
  by_cases hlt:i < n
  ·have hd:decide ((i:Int) < (n:Int)) = true:=by simp [hlt]
   obtain ⟨g,Ab,cb,hA1,hnn,hRb,hcs,hfr⟩:=HF.out.elem (by rw [HN.out]; exact hlt)
   subst hA1
   have hbl:(l.getD i Gs).body.length ≤ 1000000:=BB.out _ (by rw [List.getD_eq_getElem?_getD,List.getElem?_eq_getElem (by rw [HN.out]; exact hlt)]; exact List.getElem_mem _)
   generalize hx:l.getD i Gs = x at *
   have HX:=Lib.hid hx
   have jb:=Lib.hid hRb
   have HCS:=Lib.hid hcs
   have FP:=Lib.hid hbl
   generalize hnb:x.body.length = nb at *
   have Ez:=Lib.hid hnb
   clear hnb hx hRb hbl
   have hc5:wr.cell? ⟨g,i * 6 + 5,none⟩ = some (.slice Ab nb cb):=by have:=hcs 5 _ rfl; simpa using this
   clear hcs hfr hnn
   go_wp2_with (first | ((with_reducible refine AO (N:=31) rfl ?_); (refine Kd.BN (Kd.int .u8) (Rr:=fun x cs => cs = [Value.int .u8 x]) (w0:=wr) (W:=wr) B rfl (.const (.slice none 0 0)) (.tmp 30) 22 5 (.int .u8 0) 1 rfl Try.underlying22 IJ rfl (by decide) (by decide) (.slice none 0 0) [] x.body Ab nb cb (fun k => wr.heap.size ≤ k) (fun _ => False) rfl rfl (Kd.D5 _ _ _ _ _) (by have:=(Kd.Bi jb.out).2.2; rw [Ez.out] at this; exact this) (fun _ _ hx => hx) (fun _ hf => hf.elim) (fun k hk => hk) (Below.refl _ _) (Nat.le_trans H.out.hB HF.out.2.size) (by have:=FP.out; have:=Ez.out; simp; omega) ?_); (intro v2 w2 hR2 lN hg2 _); (rw [List.nil_append] at hR2); (obtain ⟨A2,c2,hv2⟩:=Kd.Am hR2); (rw [Ez.out] at hv2); (subst hv2); (have hbw:Below wr.heap.size wr w2:=⟨hg2.os,hg2.tape,hg2.output,hg2.size,fun k hk => hg2.block k hk (by simp [Value.ownBlock])⟩); (have Ph:=Lib.hid hbw); (have HR2:=Lib.hid hR2); (have HL2:=Lib.hid (Kd.Ee HF.out.1 hbw)); (have Ud:=Lib.hid (show ∀ j u,(D8 x (.slice Ab nb cb))[j]? = some u → w2.cell? ⟨g,(i:Int).toNat * 6 + j,none⟩ = some u from fun j u hu => Bl hbw (HCS.out j u hu))); (clear hR2 lN hg2 hbw)) | ((with_reducible refine gate_ (.store 22 (.tmp 33) (.tmp 31)) rfl ?_); (refine Kd.VI (QU w.heap.size) (w0:=w2) (W:=w2) B rfl rfl 22 (.tmp 33) (.tmp 31) rfl 67 (i:Int) 5 (TD l i) (x,true) (.slice A2 nb c2) [.slice A2 nb c2] (D8 x (.slice Ab nb cb)) (fun k => own 3 k ∨ w.heap.size ≤ k) (fun k => wr.heap.size ≤ k) rfl (by first | rfl | (simp [QU]; done)) rfl rfl (by kernel_rfl) (by simp [Value.oneCell']) HL2.out (by omega) (by omega) rfl Ud.out (by show 6 ≤ 6; decide) (show Fb.M w2 B (fun k => wr.heap.size ≤ k ∧ (true = true → w.heap.size ≤ k)) x (D8 x (.slice A2 nb c2)) from Jp.2 ⟨_,rfl,by have:=HR2.out; have hz:=HF.out.2.size; exact Kd.BV this (fun k hk => ⟨hk,fun _ => Nat.le_trans hz hk⟩)⟩) (fun k hk => ⟨.inr (Nat.le_trans HF.out.2.size hk),fun he => by have:=Kd.qJ HF.out.1 g (by simp [Value.ownBlock]); omega⟩) (Below.refl _ _) ?_); (intro w3 FT _ hg3); (have HST:=Lib.hid (show gV w B (fun k => own 3 k ∨ w.heap.size ≤ k) (.slice (some ⟨g,0,none⟩) n c1) l (i + 1) w3 from ⟨by rw [← Vg l i (by rw [HN.out]; exact hlt),HX.out]; exact FT,(HF.out.2.trans (Ph.out.mono HF.out.2.size)).grown hg3 (by have:=HF.out.2.size; have:=Ph.out.size; omega) (fun k hk => by injection hk with hk; subst hk; exact HO.out _ (by simp [Value.ownBlock]))⟩)); (clear FT hg3)))
   go_roundg (n - (i + 1))
   case measure => have:=HM.out; omega
   case rel => exact ⟨i + 1,rfl,by omega,by first | rfl | simp,HST.out⟩
  ·have hd:decide ((i:Int) < (n:Int)) = false:=by simp; omega
   exact Z46
theorem uK {w:World} {B gp:Nat} {ge:Nat → Nat} {own:Nat → Nat → Prop} {X:Pr} {lv:Nat → Value} {wv:Value} (h:Dj w B gp ge own X lv wv) (hll:(X.sd 1).log.length ≤ 1000000) (hbd:∀ x ∈ (X.sd 1).log,x.body.length ≤ 1000000):Calls Try.prog 38 #[.pointer (some ⟨gp,0,none⟩),.int .i64 1] w fun e w' => ∃ v,e = .returned v ∧ Fb.R 67 w' B (fun k => w.heap.size ≤ k) v (X.sd 1).log ∧ Below w.heap.size w w':=by
 obtain ⟨Al,cl,hlv,hrr⟩:=SK (h.l 1 (by decide))
 have hcl:w.cell? ⟨gp,11,none⟩ = some (.slice Al (X.sd 1).log.length cl):=(AA h.blk 11).trans (by rw [← hlv]; rfl)
 have H:=Lib.hid h
 have HRR:=Lib.hid hrr
 have Gv:=Lib.hid hll
 have BB:=Lib.hid hbd
 clear h hlv hrr hll hbd
 generalize hl0:(X.sd 1).log = l at *
 have bJ:=Lib.hid hl0
 clear hl0
 generalize hnl:l.length = n at *
 have HN:=Lib.hid hnl
 clear hnl
 go_enter Try.func38,Try.ntmps38
 go_wp2_with (first | (go_at_call 81; (have hc:=LQ w gp 1 (by decide)); rw [show ((1:Nat):Int) = 1 from rfl] at hc; (with_reducible refine hc.mono ?_); clear hc; rintro e w9 ⟨rfl,rfl⟩) | ((with_reducible refine AO (N:=18) rfl ?_); (refine Kd.BN (QU w.heap.size) (Rr:=fun (x:Ei × Bool) cs => x.2 = false ∧ Fb.M w B (own 4) x.1 cs) (w0:=w) (W:=w) B rfl (.const (.slice none 0 0)) (.tmp 17) 64 67 (.agg #[.int .i64 0,.int .u32 0,.int .u32 0,.int .u32 0,.int .u32 0,.slice none 0 0]) 48 rfl Try.underlying64 LU rfl (show 0 < 6 by decide) (by decide) (.slice none 0 0) [] (l.map (fun x => (x,false))) Al n cl (fun k => own 4 k ∨ w.heap.size ≤ k) (own 4) rfl rfl (Kd.D5 _ _ _ _ _) HRR.out (fun x cs hx => Fb.BU (fun k hk => ⟨hk,fun hf => absurd (hx.1.symm.trans hf) (by decide)⟩) hx.2) (fun k hk => ⟨.inl hk,by simp [Value.ownBlock]⟩) (fun k hk => .inr hk) (Below.refl _ _) H.out.hB (by have:=Gv.out; simp; omega) ?_); (intro v1 w1 hR hbl hg hat); (rw [List.nil_append,← SI] at hR); (have HO:=Lib.hid (show ∀ k,v1.ownBlock = some k → w.heap.size ≤ k from fun k hk => by rcases hat with hat | ⟨b,hat,hb⟩; (rw [hat] at hk; simp [Value.ownBlock] at hk); (rw [hat] at hk; injection hk with hk; omega))); (have Pz:=Lib.hid (show gV w B (fun k => own 4 k ∨ w.heap.size ≤ k) v1 l 0 w1 from ⟨hR,⟨hg.os,hg.tape,hg.output,hg.size,fun k hk => hg.block k hk (by simp [Value.ownBlock])⟩⟩)); (obtain ⟨A1,c1,hv1⟩:=OJ hR); (rw [HN.out] at hv1); (subst hv1); (clear hR hbl hg hat)))
 go_loopg [21] n (fun m v wr => ∃ i:Nat,m = n - i ∧ i ≤ n ∧ v = .int .i64 (i:Int) ∧ gV w B (fun k => own 4 k ∨ w.heap.size ≤ k) (.slice A1 n c1) l i wr)
 case atStart => exact ⟨0,rfl,Nat.zero_le _,rfl,Pz.out⟩
 case round =>
  obtain ⟨i,hm,hin,rfl,hF⟩:=hrel
  have HM:=Lib.hid hm
  have dO:=Lib.hid hin
  have HF:=Lib.hid hF
  clear hm hin hF
  have oG:=Gv.out
  by_cases hlt:i < n
  ·have hd:decide ((i:Int) < (n:Int)) = true:=by simp [hlt]
   obtain ⟨g,Ab,cb,hA1,hnn,hRb,hcs,hfr⟩:=HF.out.elem (by rw [HN.out]; exact hlt)
   subst hA1
   have hbl:(l.getD i Gs).body.length ≤ 1000000:=BB.out _ (by rw [List.getD_eq_getElem?_getD,List.getElem?_eq_getElem (by rw [HN.out]; exact hlt)]; exact List.getElem_mem _)
   generalize hx:l.getD i Gs = x at *
   have HX:=Lib.hid hx
   have jb:=Lib.hid hRb
   have HCS:=Lib.hid hcs
   have FP:=Lib.hid hbl
   generalize hnb:x.body.length = nb at *
   have Ez:=Lib.hid hnb
   clear hnb hx hRb hbl
   have hc5:wr.cell? ⟨g,i * 6 + 5,none⟩ = some (.slice Ab nb cb):=by have:=hcs 5 _ rfl; simpa using this
   clear hcs hfr hnn
   go_wp2_with (first | ((with_reducible refine AO (N:=31) rfl ?_); (refine Kd.BN (Kd.int .u8) (Rr:=fun x cs => cs = [Value.int .u8 x]) (w0:=wr) (W:=wr) B rfl (.const (.slice none 0 0)) (.tmp 30) 22 5 (.int .u8 0) 1 rfl Try.underlying22 IJ rfl (by decide) (by decide) (.slice none 0 0) [] x.body Ab nb cb (fun k => wr.heap.size ≤ k) (fun _ => False) rfl rfl (Kd.D5 _ _ _ _ _) (by have:=(Kd.Bi jb.out).2.2; rw [Ez.out] at this; exact this) (fun _ _ hx => hx) (fun _ hf => hf.elim) (fun k hk => hk) (Below.refl _ _) (Nat.le_trans H.out.hB HF.out.2.size) (by have:=FP.out; have:=Ez.out; simp; omega) ?_); (intro v2 w2 hR2 lN hg2 _); (rw [List.nil_append] at hR2); (obtain ⟨A2,c2,hv2⟩:=Kd.Am hR2); (rw [Ez.out] at hv2); (subst hv2); (have hbw:Below wr.heap.size wr w2:=⟨hg2.os,hg2.tape,hg2.output,hg2.size,fun k hk => hg2.block k hk (by simp [Value.ownBlock])⟩); (have Ph:=Lib.hid hbw); (have HR2:=Lib.hid hR2); (have HL2:=Lib.hid (Kd.Ee HF.out.1 hbw)); (have Ud:=Lib.hid (show ∀ j u,(D8 x (.slice Ab nb cb))[j]? = some u → w2.cell? ⟨g,(i:Int).toNat * 6 + j,none⟩ = some u from fun j u hu => Bl hbw (HCS.out j u hu))); (clear hR2 lN hg2 hbw)) | ((with_reducible refine gate_ (.store 22 (.tmp 33) (.tmp 31)) rfl ?_); (refine Kd.VI (QU w.heap.size) (w0:=w2) (W:=w2) B rfl rfl 22 (.tmp 33) (.tmp 31) rfl 67 (i:Int) 5 (TD l i) (x,true) (.slice A2 nb c2) [.slice A2 nb c2] (D8 x (.slice Ab nb cb)) (fun k => own 4 k ∨ w.heap.size ≤ k) (fun k => wr.heap.size ≤ k) rfl (by first | rfl | (simp [QU]; done)) rfl rfl (by kernel_rfl) (by simp [Value.oneCell']) HL2.out (by omega) (by omega) rfl Ud.out (by show 6 ≤ 6; decide) (show Fb.M w2 B (fun k => wr.heap.size ≤ k ∧ (true = true → w.heap.size ≤ k)) x (D8 x (.slice A2 nb c2)) from Jp.2 ⟨_,rfl,by have:=HR2.out; have hz:=HF.out.2.size; exact Kd.BV this (fun k hk => ⟨hk,fun _ => Nat.le_trans hz hk⟩)⟩) (fun k hk => ⟨.inr (Nat.le_trans HF.out.2.size hk),fun he => by have:=Kd.qJ HF.out.1 g (by simp [Value.ownBlock]); omega⟩) (Below.refl _ _) ?_); (intro w3 FT _ hg3); (have HST:=Lib.hid (show gV w B (fun k => own 4 k ∨ w.heap.size ≤ k) (.slice (some ⟨g,0,none⟩) n c1) l (i + 1) w3 from ⟨by rw [← Vg l i (by rw [HN.out]; exact hlt),HX.out]; exact FT,(HF.out.2.trans (Ph.out.mono HF.out.2.size)).grown hg3 (by have:=HF.out.2.size; have:=Ph.out.size; omega) (fun k hk => by injection hk with hk; subst hk; exact HO.out _ (by simp [Value.ownBlock]))⟩)); (clear FT hg3)))
   go_roundg (n - (i + 1))
   case measure => have:=HM.out; omega
   case rel => exact ⟨i + 1,rfl,by omega,by first | rfl | simp,HST.out⟩
  ·have hd:decide ((i:Int) < (n:Int)) = false:=by simp; omega
   exact Z46
theorem Moves.then' {w w2 w3:World} {B gp:Nat} {ge:Nat → Nat} {own:Nat → Nat → Prop} {X Y:Pr} {lv:Nat → Value} {wv:Value} {T:Nat → Prop} (h:Dj w B gp ge own X lv wv) (hb:Below w.heap.size w w2) (hm:Moves w2 B gp ge own Y (fun k => k = gp ∨ own 5 k ∧ T k) w3):Moves w B gp ge own Y (fun k => k = gp ∨ own 5 k) w3:=by
 obtain ⟨o,l,v,h1,h2,h3,h4⟩:=hm
 exact ⟨o,l,v,h1,(Grew.refl _ _).trans hb.size h2,(Kept.of_below hb _).BQ h3 (fun k hk => .inl (hk.elim .inl (fun x => .inr x.1))),(hb.mono h.hB).trans h4⟩
theorem lQ {w:World} {B gp:Nat} {ge:Nat → Nat} {own:Nat → Nat → Prop} {X:Pr} {lv:Nat → Value} {wv:Value} (h:Dj w B gp ge own X lv wv) (i:Nat) (hi:i < X.way.length) (Fh:X.way.length ≤ 1024) (kind side:Int) (vb:Value) :
  Calls Try.prog 114 #[.pointer (some ⟨gp,0,none⟩),.agg #[.int .i64 kind,.int .i64 side,.int .i64 (i:Int),vb]] w fun e w' => e = .returned (.int .i64 0) ∧ Moves w B gp ge own (GU X (X.way.getD i DI)) (fun k => k = gp ∨ own 5 k) w':=by
 obtain ⟨g,off,cw,cs,hv,hcl,hM,hg,hcell⟩:=h.way.elem DI i hi
 subst hv
 obtain ⟨b,hcs,hR⟩:=YR.1 hM
 subst hcs
 generalize X.way.getD i DI = f at *
 have hba:Below w.heap.size w (w.alloc (.cells #[.int .i64 kind,.int .i64 side,.int .i64 (i:Int),vb] 72)):=(Below.refl _ _).alloc (Nat.le_refl _) _
 have H:=Lib.hid h
 have HM:=Lib.hid hM
 have HL:=Lib.hid Fh
 have hbd:=AZ hba
 have hra:(w.alloc (.cells #[.int .i64 kind,.int .i64 side,.int .i64 (i:Int),vb] 72)).drew.rangeAt g (off + i * 12) (FV f b):=fun j u hu => cell_kept (hcell j u hu) (Kept.of_below hbd (fun _ => False)) (fun x => x)
 have hx1:=(h.sub hbd).blk
 clear hcl hM hR hcell hg Fh
 generalize hwl:X.way.length = n at *
 have ni:=Lib.hid hwl
 clear hwl
 have hSS:(w.alloc (.cells #[.int .i64 kind,.int .i64 side,.int .i64 (i:Int),vb] 72)).drew.heap[gp]? = some (.cells (BK X ge lv (.slice (some ⟨g,off,none⟩) n cw)) 143 (0,0)) ∧ (w.alloc (.cells #[.int .i64 kind,.int .i64 side,.int .i64 (i:Int),vb] 72)).drew.heap[w.heap.size]? = some (.cells #[.int .i64 kind,.int .i64 side,.int .i64 (i:Int),vb] 72 (0,0)) ∧ (w.alloc (.cells #[.int .i64 kind,.int .i64 side,.int .i64 (i:Int),vb] 72)).drew.rangeAt g (off + i * 12) (FV f b):=⟨hx1,heap_alloc_new w _,hra⟩
 have EJ:=Lib.hid hSS
 have EM:=Lib.hid hbd
 have HI:=Lib.hid hi
 clear h hba hbd hSS hra hx1 hi
 go_enter Try.func114,Try.ntmps114
 go_wp2_with fail
 have hSS:=EJ.out
 have hbd:=EM.out
 clear EJ EM
 refine BA (n:=10) (S:=fun w' => w'.heap[gp]? = some (.cells (BK X ge lv (.slice (some ⟨g,off,none⟩) n cw)) 143 (0,0)) ∧ w'.heap[w.heap.size]? = some (.cells #[.int .i64 kind,.int .i64 side,.int .i64 (i:Int),vb] 72 (0,0)) ∧ w'.rangeAt g (off + i * 12) (FV f b)) (ds:=[9]) pJ (by kernel_rfl) rfl rfl (hSS) (fun hHeld => ?_)
 generalize (w.alloc (.cells #[.int .i64 kind,.int .i64 side,.int .i64 (i:Int),vb] 72)).drew = w2 at hbd hHeld ⊢
 have BB:=Lib.hid hbd
 clear hbd
 refine pu 0 5 pK ?_
 refine pu 1 6 pM ?_
 refine pu 2 7 pO ?_
 refine pu 3 8 pR ?_
 refine tk 4 9 pU hHeld ?_ (hf:=by intro w' s0; have hc18:w'.cell? ⟨gp,18,none⟩ = some (.slice (some ⟨g,off,none⟩) n cw):=(AA s0.1 18).trans rfl; clear s0; go_simp; with_reducible rfl)
 refine pu 5 10 pV ?_
 refine tk 6 11 pW hHeld ?_ (hf:=by intro w' s0; have hc2:w'.cell? ⟨w.heap.size,2,none⟩ = some (.int .i64 (i:Int)):=(AA s0.2.1 2).trans rfl; clear s0; go_simp; with_reducible rfl)
 refine pu 7 12 pX ?_ (hy:=by intro w'; have hi1:=HI.out; go_simp; rfl)
 refine tk 8 13 pY hHeld ?_ (hf:=by intro w' s0; have qw:=Try.underlying150; have hd0:w'.cell? ⟨g,off + i * 12 + 0,none⟩ = some (.int .i64 f.dst):=s0.2.2 0 _ rfl; have hd1:w'.cell? ⟨g,off + i * 12 + 1,none⟩ = some (.int .u32 f.AB):=s0.2.2 1 _ rfl; have hd2:w'.cell? ⟨g,off + i * 12 + 2,none⟩ = some (.int .i64 f.p.kind):=s0.2.2 2 _ rfl; have hd3:w'.cell? ⟨g,off + i * 12 + 3,none⟩ = some (.int .u32 f.p.mine):=s0.2.2 3 _ rfl; have hd4:w'.cell? ⟨g,off + i * 12 + 4,none⟩ = some (.int .u32 f.p.AB):=s0.2.2 4 _ rfl; have hd5:w'.cell? ⟨g,off + i * 12 + 5,none⟩ = some (.int .u32 f.p.yours):=s0.2.2 5 _ rfl; have hd6:w'.cell? ⟨g,off + i * 12 + 6,none⟩ = some (.int .u32 f.p.seq):=s0.2.2 6 _ rfl; have hd7:w'.cell? ⟨g,off + i * 12 + 7,none⟩ = some (.int .u32 f.p.AV):=s0.2.2 7 _ rfl; have hd8:w'.cell? ⟨g,off + i * 12 + 8,none⟩ = some (.int .u32 f.p.stamp):=s0.2.2 8 _ rfl; have hd9:w'.cell? ⟨g,off + i * 12 + 9,none⟩ = some (.int .u32 f.p.echo):=s0.2.2 9 _ rfl; have hd10:w'.cell? ⟨g,off + i * 12 + 10,none⟩ = some (.complex .f64 f.p.zr f.p.zi):=s0.2.2 10 _ rfl; have hd11:w'.cell? ⟨g,off + i * 12 + 11,none⟩ = some (b):=s0.2.2 11 _ rfl; have AFe:w'.cell? ⟨g,off + i * 12,none⟩ = some (.int .i64 f.dst):=s0.2.2 0 _ rfl; clear s0; go_simp; try rfl)
 refine la 9 (some 14) ve fun K hK => ?_
 have hQ2:=H.out.sub BB.out
 refine BH Try.func83 (by kernel_rfl) rfl #[.pointer (some ⟨gp,0,none⟩),.agg #[.int .i64 f.dst,.int .u32 f.AB,.int .i64 f.p.kind,.int .u32 f.p.mine,.int .u32 f.p.AB,.int .u32 f.p.yours,.int .u32 f.p.seq,.int .u32 f.p.AV,.int .u32 f.p.stamp,.int .u32 f.p.echo,.complex .f64 f.p.zr f.p.zi,b]] (by rfl) rfl rfl (by (try simp only [List.map_toArray,List.map_cons,List.map_nil]); first | done | rfl) ?_
 refine (Yf hQ2 f b (Kd.PX HM.out (Kept.of_below BB.out (fun _ => False)) (fun _ _ hf => hf)) (by rw [ni.out]; exact HL.out)).mono ?_
 rintro e w3 ⟨rfl,hMv⟩
 refine ⟨_,rfl,?_⟩
 have HMV:=Lib.hid (Moves.then' H.out BB.out hMv)
 clear hMv hQ2 hHeld
 refine hK.out _ _ ?_
 clear hK K
 refine BG (by kernel_rfl) ?_
 go_wp2_with fail
 all_goals (go_ret; exact ⟨rfl,HMV.out⟩)
end Go.Proofs.Ytnkkgofpifhoeaa.Pr
end
