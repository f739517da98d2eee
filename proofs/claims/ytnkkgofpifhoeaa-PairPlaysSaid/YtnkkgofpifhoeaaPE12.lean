/- What the laws of a pair are proved with: links and pairs in memory, what their methods do, what a pair keeps to (part 12). -/
import Derived.Test.YtnkkgofpifhoeaaPE11
import Derived.Laws.Externs
set_option linter.unusedSimpArgs false
set_option linter.unusedVariables false
set_option maxRecDepth 100000
set_option maxHeartbeats 16000000
section
namespace Go.Proofs.Ytnkkgofpifhoeaa.Rf
open Go.RowKit Go.Proofs.Ytnkkgofpifhoeaa.Base Go.Proofs.Ytnkkgofpifhoeaa.Steps Go.Proofs.Ytnkkgofpifhoeaa.Lk Go.Proofs.YtnkkgofpifhoeaaW.PrintWords Go.Proofs.YtnkkgofpifhoeaaW.PrintLast
theorem FK.L.el {α:Type} {d:FK α} {S:Nat → Prop} {w:World} {A:Option Addr} {n:Nat} {xs:List α} (h:d.L S w A n xs) (hsz:0 < d.sz) (i:Nat) (hi:i < n) (z:α):∃ g o r,A = some ⟨g,o,none⟩ ∧ ¬ S g ∧ d.At S w (xs.getD i z) r ∧ w.rangeAt g (o + i * d.sz) r:=by
 obtain ⟨⟨g,o,sp⟩,r0,he,hS0,hA0,h0⟩:=h.elem 0 (by omega) z
 obtain ⟨ad,r,he',hS,hA,hc⟩:=h.elem i hi z
 rw [he] at he'
 have e:(⟨g,o,sp⟩:Addr) = ad:=Option.some.inj he'
 subst e
 have hsp:sp = none:=by
  have hl:=d.len hA0
  have h1:=h0 0 _ (List.getElem?_eq_getElem (show 0 < r0.length by omega))
  rw [show 0 * d.sz + 0 = 0 by simp] at h1
  cases sp with
  | none => rfl
  | some s =>
   exfalso
   unfold World.cell? Addr.add at h1
   rw [if_pos rfl] at h1
   cases hb:w.heap[g]? with
   | none => rw [hb] at h1; cases h1
   | some ob =>
    rw [hb] at h1
    cases ob <;> simp at h1
 subst hsp
 refine ⟨g,o,r,he,hS,hA,fun j v hv => ?_⟩
 have:=hc j v hv
 rw [Addr.add_mid] at this
 rw [show o + i * d.sz + j = o + (i * d.sz + j) by omega]
 exact this
theorem RP.zk {S:Nat → Prop} {w:World} {X:Pr.Pr} {cs:Array Value} (h:RP S w X cs) {s:Nat} (hs:s < 2):RP S w (X.set s { X.sd s with end_:=Fq (X.sd s).end_ }) (cs.setIfInBounds (s * 12 + 11) (.slice none 0 0)):=by
 have hsz:=h.size
 refine ⟨by simp [hsz],Ku h.one _ rfl,fun t ht => ?_,fun t ht => ?_,?_⟩
 ·by_cases hts:t = s
  ·subst hts
   rw [Pr.Pr.Ae]
   obtain ⟨PE,aN,aO,gB,gG,h1,h2⟩:=h.e t ht
   refine ⟨PE,aN,aO,none,0,⟨h1.q,h1.qc,FK.L.nil _ _ _ _,h1.nx⟩,fun j v hv => ?_⟩
   by_cases hj:j = 11
   ·subst hj
    have e:v = .slice none 0 0:=(Option.some.inj hv).symm
    subst e
    exact Array.getElem?_setIfInBounds_self_of_lt (by omega)
   ·have AFP:j < 12:=(List.getElem?_eq_some_iff.1 hv).1
    refine (Array.getElem?_setIfInBounds_ne (by omega)).trans (h2 j v ?_)
    have hk:((ev (Fq (X.sd t).end_) PE (.slice aN (X.sd t).end_.queue.length aO) (.slice none 0 0)).toList.take 11)[j]? = ((ev (X.sd t).end_ PE (.slice aN (X.sd t).end_.queue.length aO) (.slice gB (X.sd t).end_.out.length gG)).toList.take 11)[j]?:=rfl
    rw [List.getElem?_take,List.getElem?_take,if_pos (show j < 11 by omega),if_pos (show j < 11 by omega)] at hk
    exact hk.symm.trans hv
  ·rw [Pr.Pr.BP X hts]
   obtain ⟨PE,aN,aO,gB,gG,h1,h2⟩:=h.e t ht
   exact Z59
 ·have e:((X.set s { X.sd s with end_:=Fq (X.sd s).end_ }).sd t).log = (X.sd t).log:=by
   by_cases hts:t = s
   ·subst hts; rw [Pr.Pr.Ae]
   ·rw [Pr.Pr.BP X hts]
  rw [e]
  obtain ⟨A,c,h1,h2,h3⟩:=h.l t ht
  exact ⟨A,c,(Array.getElem?_setIfInBounds_ne (by omega)).trans h1,h2,h3⟩
 ·obtain ⟨A,c,h1,h2,h3⟩:=h.y
  exact ⟨A,c,(Array.getElem?_setIfInBounds_ne (by omega)).trans h1,h2,h3⟩
theorem XM (s b:Int) (ps:List Bz):∀ X:Pr.Pr,¬ X.way.length < 1024 → Pr.DU X s b ps = X:=by
 induction ps with
 | nil => exact fun _ _ => rfl
 | cons p ps ih =>
  intro X h
  have e:Pr.GU X ⟨1 - s,b,p⟩ = X:=if_neg h
  show Pr.DU (Pr.GU X ⟨1 - s,b,p⟩) s b ps = X
  rw [e]
  exact ih X h
theorem XN (X:Pr.Pr) (s b:Int) (ps:List Bz) (i:Nat) (h:¬ (Pr.DU X s b (ps.take i)).way.length < 1024):Pr.DU X s b (ps.take i) = Pr.DU X s b ps:=by
 conv => rhs; rw [← List.take_append_drop i ps]
 show _ = List.foldl _ _ _
 rw [List.foldl_append]
 exact (XM s b _ _ h).symm
def F9 (X:Pr.Pr):Nat → Pr.Pr
 | 0 => X
 | 1 => Pr.BC X 0
 | _ => Pr.BC (Pr.BC X 0) 1
theorem IZ (X:Pr.Pr) (s t:Nat) (h:t ≠ s):(Pr.BC X s).sd t = X.sd t:=by
 unfold Pr.BC
 rw [Pr.Gm,Pr.Pr.BP X h]
theorem OB (X:Pr.Pr) (s:Nat) (h:X.way.length ≤ 1024):(Pr.BC X s).way.length ≤ 1024:=Pr.FW _ _ _ _ h
theorem Ld (X:Pr.Pr) (s:Nat) (hs:s < 2):(F9 X s).sd s = X.sd s:=by
 have h0:s = 0 ∨ s = 1:=by omega
 rcases h0 with rfl | rfl
 ·rfl
 ·exact IZ X 0 1 (by decide)
theorem Rt (X:Pr.Pr) (s:Nat) (hs:s < 2):Pr.DU ((F9 X s).set s { (F9 X s).sd s with end_:=Fq ((F9 X s).sd s).end_ }) s (X.sd s).AB (X.sd s).end_.out = F9 X (s + 1):=by
 have h0:s = 0 ∨ s = 1:=by omega
 have h1:=Ld X s hs
 rw [← h1]
 rcases h0 with rfl | rfl <;> rfl
theorem Uc (X:Pr.Pr) (s:Nat) (h:X.way.length ≤ 1024):(F9 X s).way.length ≤ 1024:=by
 match s with
 | 0 => exact h
 | 1 => exact OB _ _ h
 | _ + 2 => exact OB _ _ (OB _ _ h)
theorem Z52 {p:Prop} (h:p:=by
 clear hcon
 go_wp2_with fail
 go_roundg (2 - (s + 1))
 case measure => have:=HM.out; have:=HLS.out; omega
 case rel => exact ⟨s + 1,c,rfl,by have:=HLS.out; omega,by first | rfl | simp,F.out,E3.out⟩):p:=h
theorem EO {S:Nat → Prop} {w:World} (hS:∀ k,S k → k < w.heap.size) {X:Pr.Pr} {cs:Array Value} (hP:RP S w X cs) (hO:∀ s,s < 2 → (X.sd s).end_.out.length ≤ 1024) (hY:X.way.length ≤ 1024) (hB:∀ s,s < 2 → (X.sd s).AB = (X.sd s).end_.own) :
  Calls Try.prog 92 #[.agg cs] w fun e w' => (∃ cs',e = .returned (.agg cs') ∧ RP S w' (Pr.BC (Pr.BC X 0) 1) cs') ∧ Below w.heap.size w w':=by
 have HS:=Lib.hid hS
 have HP:=Lib.hid hP
 have HO:=Lib.hid hO
 have HY:=Lib.hid hY
 have HB:=Lib.hid hB
 have OU:=Lib.hid hP.size
 have Ib:=Try.underlying84
 have Iq:=Try.underlying79
 have Df:=Try.underlying78
 clear hS hP hO hY hB
 go_enter Try.func92,Try.ntmps92
 go_wp2_with fail
 have F2:=Fm.two w cs #[.int .u32 0,.int .i64 0,.int .u32 0,.int .u32 0,.int .u32 0,.bool false,.slice none 0 0,.int .i64 0,.int .u32 0,.int .u32 0,.int .i64 0,.slice none 0 0,.int .u32 0,.int .i64 0,.int .u32 0,.int .u32 0,.int .u32 0,.bool false,.slice none 0 0,.int .i64 0,.int .u32 0,.int .u32 0,.int .i64 0,.slice none 0 0,.slice none 0 0,.slice none 0 0,.slice none 0 0] 84 84
 obtain ⟨w0,hw0⟩:∃ w0,w0 = (w.alloc (.cells cs 84)).alloc (.cells #[.int .u32 0,.int .i64 0,.int .u32 0,.int .u32 0,.int .u32 0,.bool false,.slice none 0 0,.int .i64 0,.int .u32 0,.int .u32 0,.int .i64 0,.slice none 0 0,.int .u32 0,.int .i64 0,.int .u32 0,.int .u32 0,.int .u32 0,.bool false,.slice none 0 0,.int .i64 0,.int .u32 0,.int .u32 0,.int .i64 0,.slice none 0 0,.slice none 0 0,.slice none 0 0,.slice none 0 0] 84):=⟨_,rfl⟩
 rw [← hw0] at F2 ⊢
 clear hw0
 have F:=Lib.hid F2
 clear F2
 have E:=Lib.hid ((HP.out.up F.out.up).below F.out.bw)
 go_loopg [3] 2 (fun m v wr => ∃ (s:Nat) (c:Array Value),m = 2 - s ∧ s ≤ 2 ∧ v = .int .i64 (s:Int) ∧ Fm w wr [(w.heap.size,84),(w.heap.size + 1,84)] [c,#[.int .u32 0,.int .i64 0,.int .u32 0,.int .u32 0,.int .u32 0,.bool false,.slice none 0 0,.int .i64 0,.int .u32 0,.int .u32 0,.int .i64 0,.slice none 0 0,.int .u32 0,.int .i64 0,.int .u32 0,.int .u32 0,.int .u32 0,.bool false,.slice none 0 0,.int .i64 0,.int .u32 0,.int .u32 0,.int .i64 0,.slice none 0 0,.slice none 0 0,.slice none 0 0,.slice none 0 0]] ∧ RP (fS S [(w.heap.size,84),(w.heap.size + 1,84)]) wr (F9 X s) c)
 case atStart => exact ⟨0,cs,rfl,by decide,rfl,F.out,E.out⟩
 case round =>
  obtain ⟨wo,rfl⟩:∃ wo:World,wo = wr:=⟨_,rfl⟩
  clear F E
  obtain ⟨s,c,hm,hs2,rfl,hF,hE⟩:=hrel
  have HM:=Lib.hid hm
  have F:=Lib.hid hF
  have E:=Lib.hid hE
  clear hm hF hE
  by_cases hlt:s < 2
  ·have hd:decide ((s:Int) < 2) = true:=by simp; omega
   obtain ⟨nx,Aq,cq,Ao,co,hre,hcells⟩:=HP.out.e s hlt
   obtain ⟨Ed,Aq2,cq2,Ao2,co2,kQ,MZ⟩:=E.out.e s hlt
   rw [Ld X s hlt] at kQ MZ
   have JG:=Lib.hid kQ
   have hl0:=HO.out s hlt
   have hc0:=MZ 0 _ rfl
   have Ob:=MZ 11 _ rfl
   have Gf:=Lib.hid (HB.out s hlt)
   have bJ:=Lib.hid hl0
   have HLS:=Lib.hid hlt
   clear hre hcells kQ MZ hl0
   rw [Nat.add_zero] at hc0
   have Cb:=F.out.CO 0 rfl rfl
   go_wp2_with (first | (clear Cb Ob; refine F.out.st1 0 (v:=.slice none 0 0) rfl rfl 53 (.tmp 18) (.const (.slice none 0 0)) rfl rfl rfl rfl rfl rfl (by have:=E.out.size; omega) (by kernel_rfl) rfl ?_; intro w3 hF hA; have F2:=Lib.hid hF; have E2:=Lib.hid ((E.out.keep (AP hA (AX 0 rfl))).zk hlt); have HPK:=Lib.hid (JG.out.o.keep (AP hA (AX 0 rfl))); clear F E hF hA; have F:=F2; have E:=E2; clear F2 E2))
   obtain ⟨Y0,hY0⟩:∃ Y0,Y0 = (F9 X s).set s { (F9 X s).sd s with end_:=Fq ((F9 X s).sd s).end_ }:=⟨_,rfl⟩
   have E2:=E.out
   rw [← hY0] at E2
   have E:=Lib.hid E2
   clear E2 JG
   have HSD:=Lib.hid (show (Y0.sd s).end_.own = (X.sd s).end_.own from by rw [hY0,Pr.Pr.Ae,Ld X s hlt]; rfl)
   have HWY:=Lib.hid (show Y0.way.length ≤ 1024 from by rw [hY0]; exact Uc X s HY.out)
   have HPX:=Lib.hid (show Pr.DU Y0 s (X.sd s).end_.own (X.sd s).end_.out = F9 X (s + 1) from by rw [hY0,← Gf.out,Rt X s hlt])
   clear hY0
   have hl0:=bJ.out
   have hsi:(s:Int) < 2:=by omega
   generalize hps:(X.sd s).end_.out = ps at *
   generalize hown:(X.sd s).end_.own = own at *
   clear hps hown
   generalize hn:ps.length = n at *
   have HN:=Lib.hid hn
   clear hn
   go_loopg [5] n (fun m v wr => ∃ (i:Nat) (c:Array Value),m = n - i ∧ i ≤ n ∧ v = .int .i64 (i:Int) ∧ Fm w wr [(w.heap.size,84),(w.heap.size + 1,84)] [c,#[.int .u32 0,.int .i64 0,.int .u32 0,.int .u32 0,.int .u32 0,.bool false,.slice none 0 0,.int .i64 0,.int .u32 0,.int .u32 0,.int .i64 0,.slice none 0 0,.int .u32 0,.int .i64 0,.int .u32 0,.int .u32 0,.int .u32 0,.bool false,.slice none 0 0,.int .i64 0,.int .u32 0,.int .u32 0,.int .i64 0,.slice none 0 0,.slice none 0 0,.slice none 0 0,.slice none 0 0]] ∧ RP (fS S [(w.heap.size,84),(w.heap.size + 1,84)]) wr (Pr.DU Y0 s own (ps.take i)) c ∧ Kept w3 wr (fS S [(w.heap.size,84),(w.heap.size + 1,84)]))
   case atStart => exact ⟨0,_,rfl,Nat.zero_le _,rfl,F.out,E.out,Kept.refl _ _⟩
   case round =>
    clear F E
    obtain ⟨i,c,nX,hin,rfl,hF,hE,hbw⟩:=hrel
    have HMI:=Lib.hid nX
    have F:=Lib.hid hF
    have E:=Lib.hid hE
    have Ph:=Lib.hid hbw
    clear nX hF hE hbw
    obtain ⟨Aw,cw,hcw,Fh,hLw⟩:=E.out.y
    have HW:=Lib.hid (Pr.FW (s:Int) own (ps.take i) Y0 HWY.out)
    have zl:=HW.out
    by_cases hcon:i < n ∧ (Pr.DU Y0 s own (ps.take i)).way.length < 1024
    ·obtain ⟨Ru,sQ⟩:=hcon
     have hd7:decide ((i:Int) < (n:Int)) = true:=by simp [Ru]
     have hd8:decide (((Pr.DU Y0 s own (ps.take i)).way.length:Int) < 1024) = true:=by simp; omega
     obtain ⟨g,o,r,hA,-,⟨Ab,cb,hr,hlb,J5⟩,hrg⟩:=(HPK.out.keep Ph.out).el (by decide) i Ru Oe
     subst hA
     subst hr
     obtain ⟨nx5,Aq5,cq5,Ao5,co5,-,h5⟩:=E.out.e s hlt
     have hc0:=h5 0 _ rfl
     rw [Nat.add_zero,Pr.Gm,HSD.out] at hc0
     clear h5
     have hps:=Pr.Nh Y0 s own ps i (by rw [HN.out]; exact Ru)
     have hpx:∀ (Y:Pr.Pr) (f:Pr.Fl),Y.way.length < 1024 → Pr.GU Y f = { Y with way:=Y.way ++ [f] }:=fun Y f h => if_pos h
     rw [hpx _ _ sQ] at hps
     clear hpx
     have HPS:=Lib.hid hps
     clear hps
     generalize hp:ps.getD i Oe = p at *
     clear hp
     have Yc:=Lib.hid hlb
     have zn:=Lib.hid J5
     have Qk:=Lib.hid hrg
     have sU:=Lib.hid Ru
     obtain ⟨rows,sV,kR,Y8,sW⟩:=hLw
     have Ud:=Lib.hid sV
     have OC:=Lib.hid Y8
     have zo:=Lib.hid sW
     have su:=Lib.hid hcw
     have zq:(i:Int) < (n:Int):=by omega
     have Cb:=F.out.CO 0 rfl rfl
     have hn9:n ≤ 1024:=hl0
     clear hlb J5 hrg Ru sV kR Y8 sW Fh sQ zl
     go_wp2_with fail
     clear Cb
     have F3:=Lib.hid (F.out.below (AZ (Below.refl _ _)))
     have hw1:IntKind.i64.wrap (1 - (s:Int)) = 1 - (s:Int):=IntWalk.i64_in _ (by omega)
     have GK:=Try.underlying163
     refine cu (n:=20) (ds:=[19]) F3.out M3f (by kernel_rfl) rfl rfl (fun hHeld => ?_)
     generalize wr.drew = w1 at hHeld ⊢
     have FS:=Lib.hid hHeld
     clear F3
     refine pu 1 32 M3h ?_
     refine tk 2 33 M3j hHeld ?_ (hf:=by intro w' s0; have Cb:=s0.CO 0 rfl rfl; have hq:=su.out; clear s0; go_simp; with_reducible rfl)
     refine pu 4 35 M3l ?_
     refine pu 5 36 M3n ?_
     refine pu 6 37 M3p ?_
     refine pu 7 38 M3r ?_
     refine pu 8 39 M3t ?_
     refine pu 9 40 M3v ?_
     refine tk 10 41 M3w hHeld ?_ (hf:=by intro w' s0; have Cb:=s0.CO 0 rfl rfl; clear s0; go_simp; with_reducible rfl)
     refine pu 11 42 M3x ?_
     refine pu 12 43 M3y ?_
     refine pu 13 44 M3z ?_
     refine tk 14 45 M3A hHeld ?_ (hf:=by intro w' hF; refine N8 27 (.tmp 44) ?_ g (o + i * 10) ?_ [.int .i64 p.kind,.int .u32 p.mine,.int .u32 p.AB,.int .u32 p.yours,.int .u32 p.seq,.int .u32 p.AV,.int .u32 p.stamp,.int .u32 p.echo,.complex .f64 p.zr p.zi,.slice Ab p.body.length cb] _ (fun j v hv => Bl hF.2 (Qk.out j v hv)) Try.underlying27 rfl (by kernel_rfl) <;> rfl)
     refine pu 15 46 M3B ?_
     have F3:=Lib.hid hHeld
     refine Px (iE:=0) (iC:=3) (iY:=16) (NE:=31) (NC:=34) (NY:=47) (NS:=33) (NV:=46) (fuel:=3) M3C M3D M3E M3F M3G 12 82 163 (.agg #[.int .i64 0,.int .u32 0,.int .i64 0,.int .u32 0,.int .u32 0,.int .u32 0,.int .u32 0,.int .u32 0,.int .u32 0,.int .u32 0,.complex .f64 0 0,.slice none 0 0]) 96 rfl rfl rfl rfl rfl rfl (by kernel_rfl) (by decide) (by decide) (by decide) (fun _ => rfl) (fun _ => rfl) (fun _ => rfl) rfl Try.underlying82 (by kernel_rfl) rfl (by decide) (by decide) (by decide) (by simp) (fun a' W => by first | (go_simp; done) | (go_simp; rfl)) (.agg #[.int .i64 (1 - (s:Int)),.int .u32 own,.int .i64 p.kind,.int .u32 p.mine,.int .u32 p.AB,.int .u32 p.yours,.int .u32 p.seq,.int .u32 p.AV,.int .u32 p.stamp,.int .u32 p.echo,.complex .f64 p.zr p.zi,.slice Ab p.body.length cb]) [.int .i64 (1 - (s:Int)),.int .u32 own,.int .i64 p.kind,.int .u32 p.mine,.int .u32 p.AB,.int .u32 p.yours,.int .u32 p.seq,.int .u32 p.AV,.int .u32 p.stamp,.int .u32 p.echo,.complex .f64 p.zr p.zi,.slice Ab p.body.length cb] rfl (by simp [Value.oneCell']) rfl (fun a' W hv => by (have hv2:a'.tmps[46]?.getD undef = (.agg #[.int .i64 (1 - (s:Int)),.int .u32 own,.int .i64 p.kind,.int .u32 p.mine,.int .u32 p.AB,.int .u32 p.yours,.int .u32 p.seq,.int .u32 p.AV,.int .u32 p.stamp,.int .u32 p.echo,.complex .f64 p.zr p.zi,.slice Ab p.body.length cb]:Value):=(by simpa [Act.eval] using hv)); first | (go_simp; done) | (go_simp; rfl)) Aw _ cw rows rfl (Kd.Cm Ud.out FS.out.2) (by have:=HW.out; have:=OC.out; omega) (fun w' hb => F3.out.below hb) ?_
     clear hHeld
     intro vE vC AY w5 RH UJ Nb hHeld
     have aC:=Lib.hid RH
     have aF:=Lib.hid UJ
     have FN:=Lib.hid Nb
     clear RH UJ Nb
     refine Ig (a':=?_) ?_ ?_
     rotate_left
     ·simp only [Act.put,sA,sZ,sS]
      rfl
     refine on 17 (some 48) M3H fun K hK => ?_
     refine Kd.BO (Dc 12) (Rr:=fun x cs => cs = x ∧ x.length = 12 ∧ ∀ u ∈ x,u.oneCell' = true) (w0:=w1) (W:=w5) w1.heap.size (by rfl) (.tmp 34) (.tmp 47) 82 163 (.agg #[.int .i64 0,.int .u32 0,.int .i64 0,.int .u32 0,.int .u32 0,.int .u32 0,.int .u32 0,.int .u32 0,.int .u32 0,.int .u32 0,.complex .f64 0 0,.slice none 0 0]) 96 rfl Try.underlying82 (by kernel_rfl) rfl (by decide) (by decide) vC rows [[.int .i64 (1 - (s:Int)),.int .u32 own,.int .i64 p.kind,.int .u32 p.mine,.int .u32 p.AB,.int .u32 p.yours,.int .u32 p.seq,.int .u32 p.AV,.int .u32 p.stamp,.int .u32 p.echo,.complex .f64 p.zr p.zi,.slice Ab p.body.length cb]] AY 1 1 (fun k => w1.heap.size ≤ k) (fun _ => False) rfl rfl aC.out aF.out (fun _ _ hx => hx) (fun _ hf => hf.elim) (fun k hk => Nat.le_trans FN.out.size hk) FN.out FN.out.size (by have:=HW.out; have:=OC.out; omega) ?_
     intro v7 w6 LM MH Nc _
     have RI:=Lib.hid LM
     have IE:=Lib.hid MH
     clear LM MH Nc hHeld aC aF FN
     refine hK.out _ _ (F3.out.below IE.out) (fun hHeld => ?_)
     clear hK K F3
     refine nm 48 ?_
     refine pu 18 49 M3I ?_
     refine la 19 none M3J fun K hK => ?_
     have F6:=Lib.hid hHeld
     clear hHeld
     obtain ⟨A7,c7,hv7⟩:=Kd.Am RI.out
     rw [show (rows ++ [([.int .i64 (1 - (s:Int)),.int .u32 own,.int .i64 p.kind,.int .u32 p.mine,.int .u32 p.AB,.int .u32 p.yours,.int .u32 p.seq,.int .u32 p.AV,.int .u32 p.stamp,.int .u32 p.echo,.complex .f64 p.zr p.zi,.slice Ab p.body.length cb]:List Value)]).length = (_ ++ [(⟨1 - (s:Int),own,p⟩:Pr.Fl)]:List Pr.Fl).length from by rw [List.length_append,List.length_append,OC.out]; rfl] at hv7
     subst hv7
     obtain ⟨Ua,dA,Fa,hS7⟩:=QL (FS.out.1.slt HS.out) RI.out
     rw [dA] at Ua
     have PD:=Lib.hid (FK.L.snoc (d:=aB) (x:=⟨1 - (s:Int),own,p⟩) OC.out zo.out (Kept.of_below F6.out.2 _) ⟨Ab,cb,rfl,Yc.out,zn.out.below F6.out.2⟩ Ua hS7)
     have oI:=Lib.hid Fa
     clear Ua dA Fa hS7 RI
     refine F6.out.1.N7 0 (v:=.slice A7 (_ ++ [(⟨1 - (s:Int),own,p⟩:Pr.Fl)]:List Pr.Fl).length c7) (by rfl) rfl 82 (.tmp 49) (.tmp 48) rfl rfl rfl rfl rfl rfl (by have:=E.out.size; omega) (by kernel_rfl) rfl (fun w7 hF hA => ?_)
     have F7:=Lib.hid hF
     have E7:=Lib.hid (RP.UZ ((E.out.below F6.out.2).keep (AP hA (AX 0 rfl))) oI.out (PD.out.keep (AP hA (AX 0 rfl))))
     have La:=Lib.hid ((Ph.out.BQ (Kept.of_below F6.out.2 (fS S _)) (fun k hk => .inl hk)).BQ (AP hA (AX 0 rfl)) (fun k hk => .inl hk))
     clear hF hA F6 PD F E
     refine hK.out _ _ ?_
     clear hK K
     refine BG (by kernel_rfl) ?_
     go_wp2_with fail
     go_roundg (n - (i + 1))
     case measure => have:=HMI.out; have:=sU.out; omega
     case rel => exact ⟨i + 1,_,rfl,by have:=sU.out; omega,by first | rfl | simp,F7.out,by rw [HPS.out]; exact E7.out,La.out⟩
    ·have hE9:Pr.DU Y0 s own (ps.take i) = F9 X (s + 1):=by
      rw [← HPX.out]
      by_cases h9:i < n
      ·exact XN _ _ _ _ _ (fun h => hcon ⟨h9,h⟩)
      ·rw [List.take_of_length_le (by rw [HN.out]; omega)]
     have E2:=E.out
     rw [hE9] at E2
     have E3:=Lib.hid E2
     have su:=Lib.hid hcw
     have Cb:=F.out.CO 0 rfl rfl
     clear E2 hE9 E
     by_cases Ru:i < n
     ·have hd7:decide ((i:Int) < (n:Int)) = true:=by simp [Ru]
      have hge:¬ (Pr.DU Y0 s own (ps.take i)).way.length < 1024:=fun h => hcon ⟨Ru,h⟩
      have hd8:decide (((Pr.DU Y0 s own (ps.take i)).way.length:Int) < 1024) = false:=by simp; omega
      exact Z52
     ·have hd7:decide ((i:Int) < (n:Int)) = false:=by simp; omega
      exact Z52
  ·have hd:decide ((s:Int) < 2) = false:=by simp; omega
   have he:s = 2:=by omega
   subst he
   have Ik:=Lib.hid E.out.size
   have dB:=Lib.hid E.out.one
   go_wp2_with (first | (refine F.out.ld 0 rfl 84 (.tmp 1) rfl rfl rfl rfl Try.underlying84 rfl (by rw [Ik.out]; kernel_rfl) ?_) | (refine F.out.st 1 rfl rfl 84 (.tmp 2) (.tmp 50) rfl rfl rfl rfl rfl (by rw [Ik.out]; kernel_rfl) (by rw [Ik.out]; rfl) dB.out ?_; intro w8 hF hA; have F8:=Lib.hid hF; have E8:=Lib.hid (E.out.keep (AP hA (AX 1 rfl))); clear hF hA))
   have Dt:=run_loadVar_row (P:=Try.prog) w8 _ 84 84 _ (0,0) _ (F8.out.get 1 rfl rfl) Try.underlying84 rfl (by rw [Ik.out]; kernel_rfl)
   refine bodyPost_ret (v:=_) (Pk.results_cell Try.results92 _ _ rfl Dt) rfl ?_
   exact ⟨⟨_,rfl,E8.out.up EH⟩,F8.out.bw⟩
theorem DX {P:Program} {o:Oper} {a:Act} {w:World} (ty:TypeId) (x:Operand) (ho:o.op = .load ty x) (g:Nat) (hx:a.eval x = .pointer (some ⟨g,0,none⟩)) (t:TypeId) (cs:Array Value) (fr:Nat × Nat) (d:TypeDesc) (hg:w.heap[g]? = some (.cells cs t fr))
  (hu:P.underlying ty = some d) (hd:(match d with | .struct _ | .array _ _ => true | _ => false) = true) (hi:(P.info? ty).map (·.size) = some cs.size):(execOp a.eval o).run P w = .ok (.value (.agg cs)) w:=by
 unfold execOp
 simp only [ho,hx,Instr.loadAt,Instr.sureAddr,Sem.run_bind,Sem.run_pure,Result.andThen_ok,run_loadVar_row w g t ty cs fr d hg hu hd hi]
theorem D6 {P:Program} {fn:Func} {p q u:Tmp} {ty t2:TypeId} {w:World} {v v2 x:Value} (h:fn.results = #[.cell p ty,.cell q t2,.tmp u]) (tmps:Array Value) (g g2:Nat) (hp:tmps.getD p undef = .pointer (some ⟨g,0,none⟩)) (hq:tmps.getD q undef = .pointer (some ⟨g2,0,none⟩)) (hx:tmps.getD u undef = x)
  (hl:(loadVar ty ⟨g,0,none⟩).run P w = .ok v w) (hl2:(loadVar t2 ⟨g2,0,none⟩).run P w = .ok v2 w):(results fn tmps).run P w = .ok (.tuple #[v,v2,x]) w:=by
 have hp':tmps[p]?.getD undef = .pointer (some ⟨g,0,none⟩):=by simpa using hp
 have hq':tmps[q]?.getD undef = .pointer (some ⟨g2,0,none⟩):=by simpa using hq
 have hx':tmps[u]?.getD undef = x:=by simpa using hx
 simp [results,h,hp',hq',hx',asAddr,hl,hl2]
def gQ (t:Tk) (b:Value):Value:=.agg #[.bool t.heard,.bool t.up,.bool t.down,b]
def JH (L:Lk) (AB:Int) (p:Bz) (same:Bool):Lk × Tk :=
 if L.phase = 2 then
  if same = true then (if p.seq = 0 then emit_ L (Bc L) else L,⟨true,false,false,[]⟩)
  else if L.token = 4294967295 then (Aa L,⟨true,false,true,[]⟩)
  else (emit_ (Cc (CB L) AB p) (Bc (Cc (CB L) AB p)),⟨true,false,true,[]⟩)
 else if BI L p = true then (emit_ { Cc L AB p with phase:=2 } (Bc { Cc L AB p with phase:=2 }),⟨true,true,false,[]⟩)
 else (emit_ (Cc L AB p) (Bc (Cc L AB p)),⟨true,false,false,[]⟩)
theorem Z11 {p:Prop} (h:p:=by
 have F3:=Lib.hid (F.out.below (AZ (Below.refl _ _)))
 have E3:=Lib.hid (E.out.below (AZ (Below.refl _ _)))
 clear F E
 refine BA (n:=5) (S:=fun w' => ∃ c:Array Value,c.size = 12 ∧ Fm w w' [(w.heap.size,78),(w.heap.size + 1,27),(w.heap.size + 2,78),(w.heap.size + 3,194),(w.heap.size + 4,194)] [_,_,c,#[.bool false,.bool false,.bool false,.slice none 0 0],_]) (ds:=[3]) nG (by kernel_rfl) rfl rfl (⟨_,rfl,F3.out⟩) (fun hHeld => ?_)
 refine tk 0 24 nH hHeld ?_ (hf:=by rintro w' ⟨c,hc,hF⟩; refine DX 78 (.tmp 4) ?_ _ ?_ 78 _ (0,0) _ (hF.get 0 rfl rfl) Try.underlying78 rfl (by kernel_rfl) <;> rfl)
 refine tk 1 25 M11 hHeld ?_ (hf:=by rintro w' ⟨c,hc,hF⟩; refine DX 194 (.tmp 11) ?_ _ ?_ 194 _ (0,0) _ (hF.get 4 rfl rfl) Try.underlying194 rfl (by kernel_rfl) <;> rfl)
 obtain ⟨c2,hc2,hF2⟩:=hHeld
 have F4:=Lib.hid hF2
 clear hF2 F3
 have F5:=F4
 have E5:=E3
 clear F4 E3
 refine on 2 none M14 fun K hK => ?_
 refine row_step (by rfl) rfl 78 (.tmp 8) (.tmp 24) rfl _ _ rfl rfl 78 _ (F5.out.get 2 rfl rfl) (by kernel_rfl) (hc2.trans rfl) (by kernel_rfl) (fun w32 hb7 Ba => ?_)
 have F6:=Lib.hid (F5.out.put 2 rfl Ba hb7)
 have E6:=Lib.hid (E5.out.keep (AP (g:=w.heap.size + 2) Ba (AX 2 (b:=(w.heap.size + 2,78)) rfl)))
 clear hb7 Ba F5 E5
 refine hK.out _ _ ⟨_,rfl,F6.out⟩ (fun _ => ?_)
 clear hK K
 refine la 3 none nI fun K hK => ?_
 refine row_step (by rfl) rfl 194 (.tmp 9) (.tmp 25) rfl _ _ rfl rfl 194 _ (F6.out.get 3 rfl rfl) (by kernel_rfl) rfl (by kernel_rfl) (fun PI hb7 Ba => ?_)
 have F7:=Lib.hid (F6.out.put 3 rfl Ba hb7)
 have E7:=Lib.hid (E6.out.keep (AP (g:=w.heap.size + 3) Ba (AX 3 (b:=(w.heap.size + 3,194)) rfl)))
 clear hb7 Ba F6 E6
 refine hK.out _ _ ?_
 clear hK K
 refine pu 4 10 nJ ?_
 refine BG (by kernel_rfl) ?_
 go_wp2
 have Dt:=run_loadVar_row (P:=Try.prog) PI _ 78 78 _ (0,0) _ (F7.out.get 2 rfl rfl) Try.underlying78 rfl (by kernel_rfl)
 have Jd:=run_loadVar_row (P:=Try.prog) PI _ 194 194 _ (0,0) _ (F7.out.get 3 rfl rfl) Try.underlying194 rfl (by kernel_rfl)
 refine bodyPost_ret (v:=_) (D6 Try.results131 _ _ _ rfl rfl rfl Dt Jd) rfl ?_
 exact ⟨⟨_,rfl,_,_,_,_,_,rfl,E7.out.up EH⟩,F7.out.bw⟩):p:=h
theorem Ue {S:Nat → Prop} {w:World} (hS:∀ k,S k → k < w.heap.size) {L:Lk} (hok:L.Ok) {nx:Int} {Aq:Option Addr} {cq:Nat} {Ao:Option Addr} {co:Nat} (h:RE S w L nx Aq cq Ao co) (AB:Int) (p:Bz) (Ab:Option Addr) (nb cb:Nat) (same:Bool) (R:Lk × Tk) (hR:((L.phase == 2) = true ∧ same = true ∧ (p.seq == 0) = true ∧ R = (emit_ L (Bc L),⟨true,false,false,[]⟩)) ∨ ((L.phase == 2) = true ∧ same = true ∧ (p.seq == 0) = false ∧ R = (L,⟨true,false,false,[]⟩)) ∨ ((L.phase == 2) = true ∧ same = false ∧ (L.token == 4294967295) = true ∧ R = (Aa L,⟨true,false,true,[]⟩)) ∨ ((L.phase == 2) = true ∧ same = false ∧ (L.token == 4294967295) = false ∧ Hid (∀ (S':Nat → Prop) (W:World) (n:Int) (A:Option Addr) (c:Nat) (A':Option Addr) (c':Nat),RE S' W (CB L) n A c A' c' → RE S' W (Cc (CB L) AB p) n A c A' c') ∧ R = (emit_ (Cc (CB L) AB p) (Bc (Cc (CB L) AB p)),⟨true,false,true,[]⟩)) ∨ ((L.phase == 2) = false ∧ Hid (BI L p = true) ∧ Hid (∀ (S':Nat → Prop) (W:World) (n:Int) (A:Option Addr) (c:Nat) (A':Option Addr) (c':Nat),RE S' W L n A c A' c' → RE S' W { Cc L AB p with phase:=2 } n A c A' c') ∧ R = (emit_ { Cc L AB p with phase:=2 } (Bc { Cc L AB p with phase:=2 }),⟨true,true,false,[]⟩)) ∨ ((L.phase == 2) = false ∧ Hid (BI L p = false) ∧ Hid (∀ (S':Nat → Prop) (W:World) (n:Int) (A:Option Addr) (c:Nat) (A':Option Addr) (c':Nat),RE S' W L n A c A' c' → RE S' W (Cc L AB p) n A c A' c') ∧ R = (emit_ (Cc L AB p) (Bc (Cc L AB p)),⟨true,false,false,[]⟩))) :
  Calls Try.prog 131 #[EV L nx Aq L.queue.length cq Ao L.out.length co,.int .u32 AB,.agg #[.int .i64 p.kind,.int .u32 p.mine,.int .u32 p.AB,.int .u32 p.yours,.int .u32 p.seq,.int .u32 p.AV,.int .u32 p.stamp,.int .u32 p.echo,.complex .f64 p.zr p.zi,.slice Ab nb cb],.bool same] w fun e w' => (∃ v,e = .returned (.tuple #[v,gQ R.2 (.slice none 0 0),.int .i64 0]) ∧ RV S w' R.1 v) ∧ Below w.heap.size w w':=by
 have eu:L.token ≠ 4294967295 → Hid (0 ≤ L.token ∧ L.token < 4294967295):=fun hn => Lib.hid (by have:=hok.token; omega)
 have Jf:=Lib.hid hok
 have HE:=Lib.hid h
 have HS:=Lib.hid hS
 have Df:=Try.underlying78
 have CP:=Try.underlying27
 have PK:=Try.underlying194
 clear h hS hok
 rcases hR with ⟨hq0,rfl,hq1,rfl⟩ | ⟨hq0,rfl,hq1,rfl⟩ | ⟨hq0,rfl,hq1,rfl⟩ | ⟨hq0,rfl,hq1,Gv,rfl⟩ | ⟨hq0,HM,Gv,rfl⟩ | ⟨hq0,HM,Gv,rfl⟩
 all_goals (try (have eu:=eu (by simpa using hq1)))
 all_goals (
  go_enter Try.func131,Try.ntmps131
  go_wp2_with (first | (go_at_call 115; (have F2:=Fm.five w #[.int .u32 L.own,.int .i64 L.phase,.int .u32 L.token,.int .u32 L.AB,.int .u32 L.yours,.bool L.known,.slice Aq L.queue.length cq,.int .i64 L.sent,.int .u32 nx,.int .u32 L.expected,.int .i64 L.idle,.slice Ao L.out.length co] #[.int .i64 p.kind,.int .u32 p.mine,.int .u32 p.AB,.int .u32 p.yours,.int .u32 p.seq,.int .u32 p.AV,.int .u32 p.stamp,.int .u32 p.echo,.complex .f64 p.zr p.zi,.slice Ab nb cb] #[.int .u32 0,.int .i64 0,.int .u32 0,.int .u32 0,.int .u32 0,.bool false,.slice none 0 0,.int .i64 0,.int .u32 0,.int .u32 0,.int .i64 0,.slice none 0 0] #[.bool false,.bool false,.bool false,.slice none 0 0] #[.bool true,.bool false,.bool false,.slice none 0 0] 78 27 78 194 194); (obtain ⟨w0,hw0⟩:∃ w0,w0 = (((((w.alloc (.cells #[.int .u32 L.own,.int .i64 L.phase,.int .u32 L.token,.int .u32 L.AB,.int .u32 L.yours,.bool L.known,.slice Aq L.queue.length cq,.int .i64 L.sent,.int .u32 nx,.int .u32 L.expected,.int .i64 L.idle,.slice Ao L.out.length co] 78)).alloc (.cells #[.int .i64 p.kind,.int .u32 p.mine,.int .u32 p.AB,.int .u32 p.yours,.int .u32 p.seq,.int .u32 p.AV,.int .u32 p.stamp,.int .u32 p.echo,.complex .f64 p.zr p.zi,.slice Ab nb cb] 27)).alloc (.cells #[.int .u32 0,.int .i64 0,.int .u32 0,.int .u32 0,.int .u32 0,.bool false,.slice none 0 0,.int .i64 0,.int .u32 0,.int .u32 0,.int .i64 0,.slice none 0 0] 78)).alloc (.cells #[.bool false,.bool false,.bool false,.slice none 0 0] 194)).alloc (.cells #[.bool true,.bool false,.bool false,.slice none 0 0] 194)):=⟨_,rfl⟩); (rw [← hw0] at F2 ⊢); (have E2:=Lib.hid ((HE.out.up F2.up).below F2.bw)); (clear hw0); (have F:=Lib.hid F2); (clear F2); (have E:=E2); (clear E2); (refine Go.Calls.mono (show Calls Try.prog 115 _ _ _ from Py (F.out.slt HS.out) E.out) ?_); (intro e w1 hq); (obtain ⟨⟨v,he,IW⟩,hb2⟩:=hq); (obtain ⟨Ed,A7,c7,A8,c8,hv,BM⟩:=IW); (subst hv); (subst he); (have F2:=Lib.hid (F.out.below hb2)); (have E2:=Lib.hid BM); (clear hb2 BM); (clear F E); (have F:=F2); (have E:=E2); (clear F2 E2); (have Cb:=F.out.CO 0 rfl rfl); (have hcP:=F.out.CO 1 rfl rfl)) | (go_at_call 85; (have F2:=Fm.five w #[.int .u32 L.own,.int .i64 L.phase,.int .u32 L.token,.int .u32 L.AB,.int .u32 L.yours,.bool L.known,.slice Aq L.queue.length cq,.int .i64 L.sent,.int .u32 nx,.int .u32 L.expected,.int .i64 L.idle,.slice Ao L.out.length co] #[.int .i64 p.kind,.int .u32 p.mine,.int .u32 p.AB,.int .u32 p.yours,.int .u32 p.seq,.int .u32 p.AV,.int .u32 p.stamp,.int .u32 p.echo,.complex .f64 p.zr p.zi,.slice Ab nb cb] #[.int .u32 0,.int .i64 0,.int .u32 0,.int .u32 0,.int .u32 0,.bool false,.slice none 0 0,.int .i64 0,.int .u32 0,.int .u32 0,.int .i64 0,.slice none 0 0] #[.bool false,.bool false,.bool false,.slice none 0 0] #[.bool true,.bool false,.bool true,.slice none 0 0] 78 27 78 194 194); (obtain ⟨w0,hw0⟩:∃ w0,w0 = (((((w.alloc (.cells #[.int .u32 L.own,.int .i64 L.phase,.int .u32 L.token,.int .u32 L.AB,.int .u32 L.yours,.bool L.known,.slice Aq L.queue.length cq,.int .i64 L.sent,.int .u32 nx,.int .u32 L.expected,.int .i64 L.idle,.slice Ao L.out.length co] 78)).alloc (.cells #[.int .i64 p.kind,.int .u32 p.mine,.int .u32 p.AB,.int .u32 p.yours,.int .u32 p.seq,.int .u32 p.AV,.int .u32 p.stamp,.int .u32 p.echo,.complex .f64 p.zr p.zi,.slice Ab nb cb] 27)).alloc (.cells #[.int .u32 0,.int .i64 0,.int .u32 0,.int .u32 0,.int .u32 0,.bool false,.slice none 0 0,.int .i64 0,.int .u32 0,.int .u32 0,.int .i64 0,.slice none 0 0] 78)).alloc (.cells #[.bool false,.bool false,.bool false,.slice none 0 0] 194)).alloc (.cells #[.bool true,.bool false,.bool true,.slice none 0 0] 194)):=⟨_,rfl⟩); (rw [← hw0] at F2 ⊢); (have E2:=Lib.hid ((HE.out.up F2.up).below F2.bw)); (clear hw0); (have F:=Lib.hid F2); (clear F2); (have E:=E2); (clear E2); (refine Go.Calls.mono (show Calls Try.prog 85 _ _ _ from Y1 (F.out.slt HS.out) Jf.out E.out) ?_); (intro e w1 hq); (obtain ⟨⟨v,he,IW⟩,hb2⟩:=hq); (obtain ⟨Ed,A7,c7,A8,c8,hv,BM⟩:=IW); (subst hv); (subst he); (have F2:=Lib.hid (F.out.below hb2)); (have E2:=Lib.hid BM); (clear hb2 BM); (clear F E); (have F:=F2); (have E:=E2); (clear F2 E2); (have Cb:=F.out.CO 0 rfl rfl); (have hcP:=F.out.CO 1 rfl rfl)) | (go_at_call 116; (have F2:=Fm.five w #[.int .u32 L.own,.int .i64 L.phase,.int .u32 L.token,.int .u32 L.AB,.int .u32 L.yours,.bool L.known,.slice Aq L.queue.length cq,.int .i64 L.sent,.int .u32 nx,.int .u32 L.expected,.int .i64 L.idle,.slice Ao L.out.length co] #[.int .i64 p.kind,.int .u32 p.mine,.int .u32 p.AB,.int .u32 p.yours,.int .u32 p.seq,.int .u32 p.AV,.int .u32 p.stamp,.int .u32 p.echo,.complex .f64 p.zr p.zi,.slice Ab nb cb] #[.int .u32 0,.int .i64 0,.int .u32 0,.int .u32 0,.int .u32 0,.bool false,.slice none 0 0,.int .i64 0,.int .u32 0,.int .u32 0,.int .i64 0,.slice none 0 0] #[.bool false,.bool false,.bool false,.slice none 0 0] #[.bool true,.bool false,.bool true,.slice none 0 0] 78 27 78 194 194); (obtain ⟨w0,hw0⟩:∃ w0,w0 = (((((w.alloc (.cells #[.int .u32 L.own,.int .i64 L.phase,.int .u32 L.token,.int .u32 L.AB,.int .u32 L.yours,.bool L.known,.slice Aq L.queue.length cq,.int .i64 L.sent,.int .u32 nx,.int .u32 L.expected,.int .i64 L.idle,.slice Ao L.out.length co] 78)).alloc (.cells #[.int .i64 p.kind,.int .u32 p.mine,.int .u32 p.AB,.int .u32 p.yours,.int .u32 p.seq,.int .u32 p.AV,.int .u32 p.stamp,.int .u32 p.echo,.complex .f64 p.zr p.zi,.slice Ab nb cb] 27)).alloc (.cells #[.int .u32 0,.int .i64 0,.int .u32 0,.int .u32 0,.int .u32 0,.bool false,.slice none 0 0,.int .i64 0,.int .u32 0,.int .u32 0,.int .i64 0,.slice none 0 0] 78)).alloc (.cells #[.bool false,.bool false,.bool false,.slice none 0 0] 194)).alloc (.cells #[.bool true,.bool false,.bool true,.slice none 0 0] 194)):=⟨_,rfl⟩); (rw [← hw0] at F2 ⊢); (have E2:=Lib.hid ((HE.out.up F2.up).below F2.bw)); (clear hw0); (have F:=Lib.hid F2); (clear F2); (have E:=E2); (clear E2); (refine Go.Calls.mono (show Calls Try.prog 116 _ _ _ from YZ E.out eu.out) ?_); (intro e w1 hq); (obtain ⟨⟨he,BM⟩,hb2⟩:=hq); (subst he); (have F2:=Lib.hid (F.out.below hb2)); (have E2:=Lib.hid BM); (clear hb2 BM); (clear F E); (have F:=F2); (have E:=E2); (clear F2 E2); (have Cb:=F.out.CO 0 rfl rfl); (have hcP:=F.out.CO 1 rfl rfl)) | (go_at_call 132; (have F2:=Fm.five w #[.int .u32 L.own,.int .i64 L.phase,.int .u32 L.token,.int .u32 L.AB,.int .u32 L.yours,.bool L.known,.slice Aq L.queue.length cq,.int .i64 L.sent,.int .u32 nx,.int .u32 L.expected,.int .i64 L.idle,.slice Ao L.out.length co] #[.int .i64 p.kind,.int .u32 p.mine,.int .u32 p.AB,.int .u32 p.yours,.int .u32 p.seq,.int .u32 p.AV,.int .u32 p.stamp,.int .u32 p.echo,.complex .f64 p.zr p.zi,.slice Ab nb cb] #[.int .u32 0,.int .i64 0,.int .u32 0,.int .u32 0,.int .u32 0,.bool false,.slice none 0 0,.int .i64 0,.int .u32 0,.int .u32 0,.int .i64 0,.slice none 0 0] #[.bool false,.bool false,.bool false,.slice none 0 0] #[.bool true,.bool false,.bool false,.slice none 0 0] 78 27 78 194 194); (obtain ⟨w0,hw0⟩:∃ w0,w0 = (((((w.alloc (.cells #[.int .u32 L.own,.int .i64 L.phase,.int .u32 L.token,.int .u32 L.AB,.int .u32 L.yours,.bool L.known,.slice Aq L.queue.length cq,.int .i64 L.sent,.int .u32 nx,.int .u32 L.expected,.int .i64 L.idle,.slice Ao L.out.length co] 78)).alloc (.cells #[.int .i64 p.kind,.int .u32 p.mine,.int .u32 p.AB,.int .u32 p.yours,.int .u32 p.seq,.int .u32 p.AV,.int .u32 p.stamp,.int .u32 p.echo,.complex .f64 p.zr p.zi,.slice Ab nb cb] 27)).alloc (.cells #[.int .u32 0,.int .i64 0,.int .u32 0,.int .u32 0,.int .u32 0,.bool false,.slice none 0 0,.int .i64 0,.int .u32 0,.int .u32 0,.int .i64 0,.slice none 0 0] 78)).alloc (.cells #[.bool false,.bool false,.bool false,.slice none 0 0] 194)).alloc (.cells #[.bool true,.bool false,.bool false,.slice none 0 0] 194)):=⟨_,rfl⟩); (rw [← hw0] at F2 ⊢); (have E2:=Lib.hid ((HE.out.up F2.up).below F2.bw)); (clear hw0); (have F:=Lib.hid F2); (clear F2); (have E:=E2); (clear E2); (refine Go.Calls.mono (show Calls Try.prog 132 _ _ _ from UM w0 L nx Aq L.queue.length cq Ao L.out.length co p Ab nb cb) ?_); (intro e w1 hq); (obtain ⟨he,hb2⟩:=hq); (rw [HM.out] at he); (subst he); (have BM:=E.out.below hb2); (have F2:=Lib.hid (F.out.below hb2)); (have E2:=Lib.hid BM); (clear hb2 BM); (clear F E); (have F:=F2); (have E:=E2); (clear F2 E2); (have Cb:=F.out.CO 0 rfl rfl); (have hcP:=F.out.CO 1 rfl rfl)) | (refine F.out.ld 0 rfl 78 (.tmp 4) rfl rfl rfl rfl Try.underlying78 rfl (by kernel_rfl) ?_) | ((refine F.out.st 0 rfl rfl 78 (.tmp 4) _ rfl rfl rfl rfl rfl (by kernel_rfl) rfl (by kernel_rfl) ?_); (clear Cb hcP); (intro W2 hF hA); (have F2:=Lib.hid hF); (have E2:=Lib.hid (E.out.keep (AP hA (AX 0 rfl)))); (clear hF hA); (clear F E); (have F:=F2); (have E:=E2); (clear F2 E2); (have Cb:=F.out.CO 0 rfl rfl); (have hcP:=F.out.CO 1 rfl rfl)) | ((with_reducible refine gate_ (.store 3 (.tmp 45) (.const (.int .i64 2))) rfl ?_); (clear Cb hcP); (refine AU (fun wz => Fm w wz _ _ ∧ Steps.At _ _ wz) rfl rfl ⟨_,(by have hz0:=F.out.get 0 rfl rfl; have hz1:=AA hz0 1; have hz2:=AL hz0 1; simp only [List.getElem?_toArray,List.getElem?_cons_succ,List.getElem?_cons_zero] at hz1; first | (go_simp; done) | (go_simp; rfl)),F.out.EP 0 rfl rfl 1 _,Steps.At.set (Steps.At.refl _ _) _ _⟩ (fun W2 hF => ?_)); (have F2:=Lib.hid hF.1); (have E2:=Lib.hid (E.out.keep (AP hF.2 (AX 0 rfl)))); (clear hF); (clear F E); (have F:=F2); (have E:=E2); (clear F2 E2); (have Cb:=F.out.CO 0 rfl rfl); (have hcP:=F.out.CO 1 rfl rfl)) | ((with_reducible refine gate_ (.store 4 (.tmp 46) (.const (.bool true))) rfl ?_); (clear Cb hcP); (refine AU (fun wz => Fm w wz _ _ ∧ Steps.At _ _ wz) rfl rfl ⟨_,(by have hz0:=F.out.get 4 rfl rfl; have hz1:=AA hz0 1; have hz2:=AL hz0 1; simp only [List.getElem?_toArray,List.getElem?_cons_succ,List.getElem?_cons_zero] at hz1; first | (go_simp; done) | (go_simp; rfl)),F.out.EP 4 rfl rfl 1 _,Steps.At.set (Steps.At.refl _ _) _ _⟩ (fun W2 hF => ?_)); (have F2:=Lib.hid hF.1); (have E2:=Lib.hid (E.out.keep (AP hF.2 (AX 4 rfl)))); (clear hF); (clear F E); (have F:=F2); (have E:=E2); (clear F2 E2); (have Cb:=F.out.CO 0 rfl rfl); (have hcP:=F.out.CO 1 rfl rfl)) | ((with_reducible refine gate_ (.store 24 (.tmp 48) (.tmp 47)) rfl ?_); (clear Cb hcP); (refine AU (fun wz => Fm w wz _ _ ∧ Steps.At _ _ wz) rfl rfl ⟨_,(by have hz0:=F.out.get 0 rfl rfl; have hz1:=AA hz0 3; have hz2:=AL hz0 3; simp only [List.getElem?_toArray,List.getElem?_cons_succ,List.getElem?_cons_zero] at hz1; first | (go_simp; done) | (go_simp; rfl)),F.out.EP 0 rfl rfl 3 _,Steps.At.set (Steps.At.refl _ _) _ _⟩ (fun W2 hF => ?_)); (have F2:=Lib.hid hF.1); (have E2:=Lib.hid (E.out.keep (AP hF.2 (AX 0 rfl)))); (clear hF); (clear F E); (have F:=F2); (have E:=E2); (clear F2 E2); (have Cb:=F.out.CO 0 rfl rfl); (have hcP:=F.out.CO 1 rfl rfl)) | ((with_reducible refine gate_ (.store 24 (.tmp 51) (.tmp 50)) rfl ?_); (clear Cb hcP); (refine AU (fun wz => Fm w wz _ _ ∧ Steps.At _ _ wz) rfl rfl ⟨_,(by have hz0:=F.out.get 0 rfl rfl; have hz1:=AA hz0 4; have hz2:=AL hz0 4; simp only [List.getElem?_toArray,List.getElem?_cons_succ,List.getElem?_cons_zero] at hz1; first | (go_simp; done) | (go_simp; rfl)),F.out.EP 0 rfl rfl 4 _,Steps.At.set (Steps.At.refl _ _) _ _⟩ (fun W2 hF => ?_)); (have F2:=Lib.hid hF.1); (have E2:=Lib.hid (E.out.keep (AP hF.2 (AX 0 rfl)))); (clear hF); (clear F E); (have F:=F2); (have E:=E2); (clear F2 E2); (have Cb:=F.out.CO 0 rfl rfl); (have hcP:=F.out.CO 1 rfl rfl)) | ((with_reducible refine gate_ (.store 4 (.tmp 52) (.const (.bool true))) rfl ?_); (clear Cb hcP); (refine AU (fun wz => Fm w wz _ _ ∧ Steps.At _ _ wz) rfl rfl ⟨_,(by have hz0:=F.out.get 0 rfl rfl; have hz1:=AA hz0 5; have hz2:=AL hz0 5; simp only [List.getElem?_toArray,List.getElem?_cons_succ,List.getElem?_cons_zero] at hz1; first | (go_simp; done) | (go_simp; rfl)),F.out.EP 0 rfl rfl 5 _,Steps.At.set (Steps.At.refl _ _) _ _⟩ (fun W2 hF => ?_)); (have F2:=Lib.hid hF.1); (have E2:=Lib.hid (E.out.keep (AP hF.2 (AX 0 rfl)))); (clear hF); (clear F E); (have F:=F2); (have E:=E2); (clear F2 E2); (have Cb:=F.out.CO 0 rfl rfl); (have hcP:=F.out.CO 1 rfl rfl))))
 all_goals (try clear Cb hcP)
 ·skip
  exact Z11
 ·((have F2:=Fm.five w #[.int .u32 L.own,.int .i64 L.phase,.int .u32 L.token,.int .u32 L.AB,.int .u32 L.yours,.bool L.known,.slice Aq L.queue.length cq,.int .i64 L.sent,.int .u32 nx,.int .u32 L.expected,.int .i64 L.idle,.slice Ao L.out.length co] #[.int .i64 p.kind,.int .u32 p.mine,.int .u32 p.AB,.int .u32 p.yours,.int .u32 p.seq,.int .u32 p.AV,.int .u32 p.stamp,.int .u32 p.echo,.complex .f64 p.zr p.zi,.slice Ab nb cb] #[.int .u32 0,.int .i64 0,.int .u32 0,.int .u32 0,.int .u32 0,.bool false,.slice none 0 0,.int .i64 0,.int .u32 0,.int .u32 0,.int .i64 0,.slice none 0 0] #[.bool false,.bool false,.bool false,.slice none 0 0] #[.bool true,.bool false,.bool false,.slice none 0 0] 78 27 78 194 194); (obtain ⟨w0,hw0⟩:∃ w0,w0 = (((((w.alloc (.cells #[.int .u32 L.own,.int .i64 L.phase,.int .u32 L.token,.int .u32 L.AB,.int .u32 L.yours,.bool L.known,.slice Aq L.queue.length cq,.int .i64 L.sent,.int .u32 nx,.int .u32 L.expected,.int .i64 L.idle,.slice Ao L.out.length co] 78)).alloc (.cells #[.int .i64 p.kind,.int .u32 p.mine,.int .u32 p.AB,.int .u32 p.yours,.int .u32 p.seq,.int .u32 p.AV,.int .u32 p.stamp,.int .u32 p.echo,.complex .f64 p.zr p.zi,.slice Ab nb cb] 27)).alloc (.cells #[.int .u32 0,.int .i64 0,.int .u32 0,.int .u32 0,.int .u32 0,.bool false,.slice none 0 0,.int .i64 0,.int .u32 0,.int .u32 0,.int .i64 0,.slice none 0 0] 78)).alloc (.cells #[.bool false,.bool false,.bool false,.slice none 0 0] 194)).alloc (.cells #[.bool true,.bool false,.bool false,.slice none 0 0] 194)):=⟨_,rfl⟩); (rw [← hw0] at F2 ⊢); (have E2:=Lib.hid ((HE.out.up F2.up).below F2.bw)); (clear hw0); (have F:=Lib.hid F2); (clear F2); (have E:=E2); (clear E2))
  exact Z11
 ·skip
  have F3:=Lib.hid (F.out.below (AZ (Below.refl _ _)))
  have E3:=Lib.hid (E.out.below (AZ (Below.refl _ _)))
  clear F E
  refine BA (n:=5) (S:=fun w' => ∃ c:Array Value,c.size = 12 ∧ Fm w w' [(w.heap.size,78),(w.heap.size + 1,27),(w.heap.size + 2,78),(w.heap.size + 3,194),(w.heap.size + 4,194)] [_,_,c,#[.bool false,.bool false,.bool false,.slice none 0 0],_]) (ds:=[3]) nG (by kernel_rfl) rfl rfl (⟨_,rfl,F3.out⟩) (fun hHeld => ?_)
  refine tk 0 38 nH hHeld ?_ (hf:=by rintro w' ⟨c,hc,hF⟩; refine DX 78 (.tmp 4) ?_ _ ?_ 78 _ (0,0) _ (hF.get 0 rfl rfl) Try.underlying78 rfl (by kernel_rfl) <;> rfl)
  refine tk 1 39 M11 hHeld ?_ (hf:=by rintro w' ⟨c,hc,hF⟩; refine DX 194 (.tmp 11) ?_ _ ?_ 194 _ (0,0) _ (hF.get 4 rfl rfl) Try.underlying194 rfl (by kernel_rfl) <;> rfl)
  obtain ⟨c2,hc2,hF2⟩:=hHeld
  have F4:=Lib.hid hF2
  clear hF2 F3
  have F5:=F4
  have E5:=E3
  clear F4 E3
  refine on 2 none M14 fun K hK => ?_
  refine row_step (by rfl) rfl 78 (.tmp 8) (.tmp 38) rfl _ _ rfl rfl 78 _ (F5.out.get 2 rfl rfl) (by kernel_rfl) (hc2.trans rfl) (by kernel_rfl) (fun w32 hb7 Ba => ?_)
  have F6:=Lib.hid (F5.out.put 2 rfl Ba hb7)
  have E6:=Lib.hid (E5.out.keep (AP (g:=w.heap.size + 2) Ba (AX 2 (b:=(w.heap.size + 2,78)) rfl)))
  clear hb7 Ba F5 E5
  refine hK.out _ _ ⟨_,rfl,F6.out⟩ (fun _ => ?_)
  clear hK K
  refine la 3 none nI fun K hK => ?_
  refine row_step (by rfl) rfl 194 (.tmp 9) (.tmp 39) rfl _ _ rfl rfl 194 _ (F6.out.get 3 rfl rfl) (by kernel_rfl) rfl (by kernel_rfl) (fun PI hb7 Ba => ?_)
  have F7:=Lib.hid (F6.out.put 3 rfl Ba hb7)
  have E7:=Lib.hid (E6.out.keep (AP (g:=w.heap.size + 3) Ba (AX 3 (b:=(w.heap.size + 3,194)) rfl)))
  clear hb7 Ba F6 E6
  refine hK.out _ _ ?_
  clear hK K
  refine pu 4 10 nJ ?_
  refine BG (by kernel_rfl) ?_
  go_wp2
  have Dt:=run_loadVar_row (P:=Try.prog) PI _ 78 78 _ (0,0) _ (F7.out.get 2 rfl rfl) Try.underlying78 rfl (by kernel_rfl)
  have Jd:=run_loadVar_row (P:=Try.prog) PI _ 194 194 _ (0,0) _ (F7.out.get 3 rfl rfl) Try.underlying194 rfl (by kernel_rfl)
  refine bodyPost_ret (v:=_) (D6 Try.results131 _ _ _ rfl rfl rfl Dt Jd) rfl ?_
  exact ⟨⟨_,rfl,_,_,_,_,_,rfl,E7.out.up EH⟩,F7.out.bw⟩
 all_goals (
  skip
  have F3:=Lib.hid (F.out.below (AZ (Below.refl _ _)))
  have E3:=Lib.hid (E.out.below (AZ (Below.refl _ _)))
  clear F E
  refine BA (n:=6) (S:=fun w' => ∃ c:Array Value,c.size = 12 ∧ Fm w w' [(w.heap.size,78),(w.heap.size + 1,27),(w.heap.size + 2,78),(w.heap.size + 3,194),(w.heap.size + 4,194)] [_,_,c,#[.bool false,.bool false,.bool false,.slice none 0 0],_]) (ds:=[4]) yC (by kernel_rfl) rfl rfl (⟨_,rfl,F3.out⟩) (fun hHeld => ?_)
  refine tk 0 53 yD hHeld ?_ (hf:=by rintro w' ⟨c,hc,hF⟩; refine DX 78 (.tmp 4) ?_ _ ?_ 78 _ (0,0) _ (hF.get 0 rfl rfl) Try.underlying78 rfl (by kernel_rfl) <;> rfl)
  refine tk 2 55 M2U hHeld ?_ (hf:=by rintro w' ⟨c,hc,hF⟩; refine DX 194 (.tmp 11) ?_ _ ?_ 194 _ (0,0) _ (hF.get 4 rfl rfl) Try.underlying194 rfl (by kernel_rfl) <;> rfl)
  obtain ⟨c2,hc2,hF2⟩:=hHeld
  have F4:=Lib.hid hF2
  clear hF2 F3
  refine on 1 (some 54) M49 fun K hK => ?_
  have hcx:=Py (F4.out.slt HS.out) (Gv.out _ _ _ _ _ _ _ E3.out)
  refine BH Try.func115 (by kernel_rfl) rfl #[_] (by rfl) rfl rfl (by (try simp only [List.map_toArray,List.map_cons,List.map_nil]); first | done | rfl) ?_
  refine Go.Calls.mono hcx ?_
  clear hcx
  intro e w31 hq
  obtain ⟨⟨v,he,IW⟩,hb2⟩:=hq
  obtain ⟨Ed,A7,c7,A8,c8,hv,BM⟩:=IW
  subst hv
  subst he
  refine ⟨_,rfl,?_⟩
  have F5:=Lib.hid (F4.out.below hb2)
  have E5:=Lib.hid BM
  clear BM hb2 E3 F4
  refine hK.out _ _ ⟨_,hc2,F5.out⟩ (fun _ => ?_)
  clear hK K
  refine nm 54 ?_
  refine on 3 none yE fun K hK => ?_
  refine row_step (by rfl) rfl 78 (.tmp 8) (.tmp 54) rfl _ _ rfl rfl 78 _ (F5.out.get 2 rfl rfl) (by kernel_rfl) (hc2.trans rfl) (by kernel_rfl) (fun w32 hb7 Ba => ?_)
  have F6:=Lib.hid (F5.out.put 2 rfl Ba hb7)
  have E6:=Lib.hid (E5.out.keep (AP (g:=w.heap.size + 2) Ba (AX 2 (b:=(w.heap.size + 2,78)) rfl)))
  clear hb7 Ba F5 E5
  refine hK.out _ _ ⟨_,rfl,F6.out⟩ (fun _ => ?_)
  clear hK K
  refine la 4 none yF fun K hK => ?_
  refine row_step (by rfl) rfl 194 (.tmp 9) (.tmp 55) rfl _ _ rfl rfl 194 _ (F6.out.get 3 rfl rfl) (by kernel_rfl) rfl (by kernel_rfl) (fun PI hb7 Ba => ?_)
  have F7:=Lib.hid (F6.out.put 3 rfl Ba hb7)
  have E7:=Lib.hid (E6.out.keep (AP (g:=w.heap.size + 3) Ba (AX 3 (b:=(w.heap.size + 3,194)) rfl)))
  clear hb7 Ba F6 E6
  refine hK.out _ _ ?_
  clear hK K
  refine pu 5 10 yI ?_
  refine BG (by kernel_rfl) ?_
  go_wp2
  have Dt:=run_loadVar_row (P:=Try.prog) PI _ 78 78 _ (0,0) _ (F7.out.get 2 rfl rfl) Try.underlying78 rfl (by kernel_rfl)
  have Jd:=run_loadVar_row (P:=Try.prog) PI _ 194 194 _ (0,0) _ (F7.out.get 3 rfl rfl) Try.underlying194 rfl (by kernel_rfl)
  refine bodyPost_ret (v:=_) (D6 Try.results131 _ _ _ rfl rfl rfl Dt Jd) rfl ?_
  exact ⟨⟨_,rfl,_,_,_,_,_,rfl,E7.out.up EH⟩,F7.out.bw⟩)
theorem kS {S:Nat → Prop} {w:World} (hS:∀ k,S k → k < w.heap.size) {L:Lk} (hok:L.Ok) {nx:Int} {Aq:Option Addr} {cq:Nat} {Ao:Option Addr} {co:Nat} (h:RE S w L nx Aq cq Ao co) (AB:Int) (p:Bz) (Ab:Option Addr) (nb cb:Nat) (same:Bool) (hp:L.phase ≠ 0) :
  Calls Try.prog 131 #[EV L nx Aq L.queue.length cq Ao L.out.length co,.int .u32 AB,.agg #[.int .i64 p.kind,.int .u32 p.mine,.int .u32 p.AB,.int .u32 p.yours,.int .u32 p.seq,.int .u32 p.AV,.int .u32 p.stamp,.int .u32 p.echo,.complex .f64 p.zr p.zi,.slice Ab nb cb],.bool same] w fun e w' => (∃ v,e = .returned (.tuple #[v,gQ (JH L AB p same).2 (.slice none 0 0),.int .i64 0]) ∧ RV S w' (JH L AB p same).1 v) ∧ Below w.heap.size w w':=by
 have DT:=hok.phase
 refine Ue hS hok h AB p Ab nb cb same _ ?_
 unfold JH
 by_cases h2:L.phase = 2
 ·rw [if_pos h2]
  have hq0:(L.phase == 2) = true:=by simp [h2]
  by_cases hs:same = true
  ·rw [if_pos hs]
   by_cases hq:p.seq = 0
   ·rw [if_pos hq]; exact .inl ⟨hq0,hs,by simp [hq],rfl⟩
   ·rw [if_neg hq]; exact .inr (.inl ⟨hq0,hs,by simp [hq],rfl⟩)
  ·rw [if_neg hs]
   by_cases ht:L.token = 4294967295
   ·rw [if_pos ht]; exact .inr (.inr (.inl ⟨hq0,by simpa using hs,by simp [ht],rfl⟩))
   ·rw [if_neg ht]; exact .inr (.inr (.inr (.inl ⟨hq0,by simpa using hs,by simp [ht],Lib.hid (fun _ _ _ _ _ _ _ r => ⟨r.q,r.qc,r.o,r.nx⟩),rfl⟩)))
 ·rw [if_neg h2]
  have hq0:(L.phase == 2) = false:=by simp [h2]
  by_cases hm:BI L p = true
  ·rw [if_pos hm]; exact .inr (.inr (.inr (.inr (.inl ⟨hq0,Lib.hid hm,Lib.hid (fun _ _ _ _ _ _ _ r => ⟨r.q,r.qc,r.o,fun _ => r.nx hp⟩),rfl⟩))))
  ·rw [if_neg hm]; exact .inr (.inr (.inr (.inr (.inr ⟨hq0,Lib.hid (by simpa using hm),Lib.hid (fun _ _ _ _ _ _ _ r => ⟨r.q,r.qc,r.o,r.nx⟩),rfl⟩))))
end Go.Proofs.Ytnkkgofpifhoeaa.Rf
end
section
namespace Go.Proofs.Ytnkkgofpifhoeaa.Pk
open Go.RowKit Go.Proofs.Ytnkkgofpifhoeaa.Base Go.Proofs.YtnkkgofpifhoeaaW.PrintWords Go.Proofs.YtnkkgofpifhoeaaW.PrintLast
@[go_sem] theorem dD (n:Int) (w:World):(callFunc 61 #[.int .u64 n]).run Try.prog w = .ok (.value (.float .f64 n.toNat)) w:=by
 rw [run_callFunc_extern (P:=Try.prog) (f:=61) (fn:=Try.f61) (e:=Extern.MathFloatBits.float64frombits) (by kernel_rfl) (by kernel_rfl) rfl (by kernel_rfl) (by rfl)]
 rfl
@[go_sem] theorem kT (n:Nat) (w:World):(callFunc 65 #[.float .f64 n]).run Try.prog w = .ok (.value (.int .u64 n)) w:=by
 rw [run_callFunc_extern (P:=Try.prog) (f:=65) (fn:=Try.f65) (e:=Extern.MathFloatBits.float64bits) (by kernel_rfl) (by kernel_rfl) rfl (by kernel_rfl) (by rfl)]
 rfl
end Go.Proofs.Ytnkkgofpifhoeaa.Pk
end
section
namespace Go.Proofs.Ytnkkgofpifhoeaa.Pk
open Go.RowKit Go.Proofs.Ytnkkgofpifhoeaa.nY Go.Proofs.Ytnkkgofpifhoeaa.Base Go.Proofs.Ytnkkgofpifhoeaa.Num Go.Proofs.YtnkkgofpifhoeaaW.PrintWords Go.Proofs.YtnkkgofpifhoeaaW.PrintLast
theorem Y9 (x:Nat):((FloatKind.f64.format.order x 18442240474082181119 == some Ordering.gt || FloatKind.f64.format.order x 18442240474082181119 == some Ordering.eq) && (FloatKind.f64.format.order x 9218868437227405311 == some Ordering.lt || FloatKind.f64.format.order x 9218868437227405311 == some Ordering.eq)) = fin x:=WG x
theorem ZA (x:Nat) (b:Bool) (h:fin x = b) (w:World):Calls Try.prog 137 #[.float .f64 x] w fun e w' => e = .returned (.bool b) ∧ w = w':=by
 have HB:=Lib.hid (Y9 x)
 have H:=Lib.hid h
 clear h
 go_enter Try.func137,Try.ntmps137
 go_wp2
 all_goals
  go_ret
  refine ⟨Dv ?_,rfl⟩
  first | exact HB.out.trans H.out | (rw [← H.out,← HB.out]; simp_all)
theorem ZB (x:Nat) (h:Jn x = false) (w:World):Calls Try.prog 138 #[.float .f64 x] w fun e w' => e = .returned (.bool false) ∧ w = w':=by
 have he:(FloatKind.f64.format.order x 0 == some Ordering.eq) = false:=by rw [Ej,h]
 clear h
 go_enter Try.func138,Try.ntmps138
 go_wp2
 go_ret
 exact ⟨rfl,rfl⟩
theorem dF (w:World):Calls Try.prog 138 #[.float .f64 0] w fun e w' => e = .returned (.bool false) ∧ w = w':=by
 have he:(FloatKind.f64.format.order 0 0 == some Ordering.eq) = true:=by rw [Ej]; rfl
 have hd:=fun (W:World) => Eb (P:=Try.prog) W 38 4607182418800017408 0 9218868437227405312 Hw
 have hl:(FloatKind.f64.format.order 9218868437227405312 0 == some Ordering.lt) = false:=GZ
 go_enter Try.func138,Try.ntmps138
 go_wp2
 go_ret
 exact ⟨rfl,rfl⟩
theorem dG (w:World):Calls Try.prog 138 #[.float .f64 9223372036854775808] w fun e w' => e = .returned (.bool true) ∧ w = w':=by
 have he:(FloatKind.f64.format.order 9223372036854775808 0 == some Ordering.eq) = true:=by rw [Ej]; rfl
 have hd:=fun (W:World) => Eb (P:=Try.prog) W 38 4607182418800017408 9223372036854775808 18442240474082181120 JM
 have hl:(FloatKind.f64.format.order 18442240474082181120 0 == some Ordering.lt) = true:=IP
 go_enter Try.func138,Try.ntmps138
 go_wp2
 go_ret
 exact ⟨rfl,rfl⟩
theorem Rw (x:Nat) (b:Bool) (hx:x < 18446744073709551616) (h:MG x = b) (w:World):Calls Try.prog 138 #[.float .f64 x] w fun e w' => e = .returned (.bool b) ∧ w = w':=by
 subst h
 cases hn:Jn x
 ·have:MG x = false:=by
   unfold Jn at hn
   unfold MG
   rw [beq_eq_false_iff_ne] at hn ⊢
   omega
  rw [this]
  exact ZB x hn w
 ·rcases JO x hx hn with rfl | rfl
  ·exact dF w
  ·exact dG w
theorem kU (p q:Nat) (w:World):Calls Try.prog 135 #[.agg #[.int .i64 2,.int .i64 0,.complex .f64 p q,.string ⟨#[]⟩,.int .i64 0,.int .u32 0,.int .u64 0,.slice none 0 0,.slice none 0 0]] w fun e w' => e = .returned (.bool true) ∧ Below w.heap.size w w':=by
 go_enter Try.func135,Try.ntmps135
 go_wp2
 go_ret
 exact ⟨rfl,(Below.refl _ _).alloc (Nat.le_refl _) _⟩
theorem Uf (p q:Nat) (hp:p < 18446744073709551616) (hq:q < 18446744073709551616) (w:World) :
  Calls Try.prog 121 #[.agg #[.int .i64 2,.int .i64 0,.complex .f64 p q,.string ⟨#[]⟩,.int .i64 0,.int .u32 0,.int .u64 0,.slice none 0 0,.slice none 0 0]] w fun e w' => e = .returned (.bool (Jw p q)) ∧ Below w.heap.size w w':=by
 cases h1:fin p <;> cases h2:fin q <;> cases h3:MG p <;> cases h4:MG q
 all_goals
  have H:RowKit.Hid (Jw p q = (fin p && fin q && !(MG p) && !(MG q))):=Lib.hid rfl
  have H0:=H.out
  rw [h1,h2,h3,h4] at H0
  have HH:=Lib.hid H0
  clear H H0
  have H1:=Lib.hid h1
  have H2:=Lib.hid h2
  have H3:=Lib.hid h3
  have H4:=Lib.hid h4
  have HP:=Lib.hid hp
  have HQ:=Lib.hid hq
  clear h1 h2 h3 h4
  go_enter Try.func121,Try.ntmps121
  go_wp2_with (first | (go_at_call 135; refine (kU p q _).mono ?_; rintro e w' ⟨rfl,hb⟩; have hz:=hb.size; simp at hz; obtain ⟨hc,hf⟩:=Xb hb) | (go_at_call 137; (first | with_reducible refine (ZA p _ H1.out _).mono ?_ | with_reducible refine (ZA q _ H2.out _).mono ?_); rintro e w' ⟨rfl,rfl⟩) | (go_at_call 138; (first | with_reducible refine (Rw p _ HP.out H3.out _).mono ?_ | with_reducible refine (Rw q _ HQ.out H4.out _).mono ?_); rintro e w' ⟨rfl,rfl⟩))
  go_ret
  refine ⟨Dv ?_,?_⟩
  ·rw [HH.out]
   first | rfl | simp
  ·repeat (first | refine Below.alloc ?_ (by simp <;> omega) _ | exact Below.refl _ _ | refine Below.trans ?_ (Below.mono (by assumption) (by simp <;> omega)))
theorem kV (a b:Int):((a == 0) = (b == 0)) ↔ (a = 0 ↔ b = 0):=by
 rw [Bool.eq_iff_iff]
 simp
theorem tC (mine AB yours seq AV stamp echo:Int) (zr zi:Nat) (A:Option Addr) (n c:Nat) (w:World) (hz0:0 ≤ mine) (hz1:0 ≤ AB) (hz2:0 ≤ yours) (hz3:0 ≤ seq) :
  Calls Try.prog 98 #[.agg #[.int .i64 1,.int .u32 mine,.int .u32 AB,.int .u32 yours,.int .u32 seq,.int .u32 AV,.int .u32 stamp,.int .u32 echo,.complex .f64 zr zi,.slice A n c]] w fun e w' => e = .returned (.bool (good1 mine AB yours seq AV stamp echo zr zi n)) ∧ Below w.heap.size w w':=by
 have hz:=fun (W:World) => G5 (P:=Try.prog) W 25 zr zi
 have CP:=Try.underlying27
 go_enter Try.func98,Try.ntmps98
 go_wp2
 all_goals
  go_ret
  refine ⟨Dv ?_,?_⟩
  ·unfold good1
   rw [Bool.eq_iff_iff]
   simp_all <;> first | omega | (simp only [kV] at *; first | omega | (intros; exfalso; omega))
  ·repeat (first | refine Below.setCell ?_ (by simp <;> omega) _ | refine Below.alloc ?_ (by simp <;> omega) _ | exact Below.refl _ _ | refine Below.trans ?_ (Below.mono (by assumption) (by simp <;> omega)))
theorem tH (mine AB yours seq AV stamp echo:Int) (zr zi:Nat) (A:Option Addr) (n c:Nat) (w:World) (hz0:0 ≤ mine) (hz1:0 ≤ AB) (hz2:0 ≤ yours) (hz3:0 ≤ seq) (hn:n ≤ 1000) :
  Calls Try.prog 98 #[.agg #[.int .i64 2,.int .u32 mine,.int .u32 AB,.int .u32 yours,.int .u32 seq,.int .u32 AV,.int .u32 stamp,.int .u32 echo,.complex .f64 zr zi,.slice A n c]] w fun e w' => e = .returned (.bool (I5 mine AB yours stamp echo zr zi n)) ∧ Below w.heap.size w w':=by
 have hz:=fun (W:World) => G5 (P:=Try.prog) W 25 zr zi
 have CP:=Try.underlying27
 go_enter Try.func98,Try.ntmps98
 go_wp2
 all_goals
  go_ret
  refine ⟨Dv ?_,?_⟩
  ·unfold I5
   rw [Bool.eq_iff_iff]
   simp_all <;> first | omega | (simp only [kV] at *; first | omega | (intros; exfalso; omega))
  ·repeat (first | refine Below.setCell ?_ (by simp <;> omega) _ | refine Below.alloc ?_ (by simp <;> omega) _ | exact Below.refl _ _ | refine Below.trans ?_ (Below.mono (by assumption) (by simp <;> omega)))
theorem tJ (mine AB yours seq AV stamp echo:Int) (zr zi:Nat) (A:Option Addr) (n c:Nat) (w:World) (hz0:0 ≤ mine) (hz1:0 ≤ AB) (hz2:0 ≤ yours) (hz3:0 ≤ seq) :
  Calls Try.prog 98 #[.agg #[.int .i64 3,.int .u32 mine,.int .u32 AB,.int .u32 yours,.int .u32 seq,.int .u32 AV,.int .u32 stamp,.int .u32 echo,.complex .f64 zr zi,.slice A n c]] w fun e w' => e = .returned (.bool (I7 mine AB yours seq stamp echo zr zi n)) ∧ Below w.heap.size w w':=by
 have hz:=fun (W:World) => G5 (P:=Try.prog) W 25 zr zi
 have CP:=Try.underlying27
 go_enter Try.func98,Try.ntmps98
 go_wp2
 all_goals
  go_ret
  refine ⟨Dv ?_,?_⟩
  ·unfold I7
   rw [Bool.eq_iff_iff]
   simp_all <;> first | omega | (simp only [kV] at *; first | omega | (intros; exfalso; omega))
  ·repeat (first | refine Below.setCell ?_ (by simp <;> omega) _ | refine Below.alloc ?_ (by simp <;> omega) _ | exact Below.refl _ _ | refine Below.trans ?_ (Below.mono (by assumption) (by simp <;> omega)))
theorem tK (mine AB yours seq AV stamp echo:Int) (zr zi:Nat) (A:Option Addr) (n c:Nat) (w:World) (hz0:0 ≤ mine) (hz1:0 ≤ AB) (hz2:0 ≤ yours) (hz3:0 ≤ seq) (hp:zr < 18446744073709551616) (hq:zi < 18446744073709551616) :
  Calls Try.prog 98 #[.agg #[.int .i64 4,.int .u32 mine,.int .u32 AB,.int .u32 yours,.int .u32 seq,.int .u32 AV,.int .u32 stamp,.int .u32 echo,.complex .f64 zr zi,.slice A n c]] w fun e w' => e = .returned (.bool (Jo mine AB yours seq zr zi n)) ∧ Below w.heap.size w w':=by
 have hz:=fun (W:World) => G5 (P:=Try.prog) W 25 zr zi
 have CP:=Try.underlying27
 cases hpl:Jw zr zi
 all_goals
  have HP:=Lib.hid hpl
  clear hpl
  have hq':=Lib.hid hq
  have hp':=Lib.hid hp
  clear hp hq
  go_enter Try.func98,Try.ntmps98
  go_wp2_with (go_at_call 121; refine (Uf zr zi hp'.out hq'.out _).mono ?_; rintro e w' ⟨rfl,hb⟩; rw [HP.out]; obtain ⟨hc,hf⟩:=Xb hb; have hz1:=hb.size; simp at hz1)
 all_goals
  go_ret
  refine ⟨Dv ?_,?_⟩
  ·unfold Jo
   rw [HP.out,Bool.eq_iff_iff]
   simp_all <;> omega
  ·repeat (first | refine Below.setCell ?_ (by simp <;> omega) _ | refine Below.alloc ?_ (by simp <;> omega) _ | exact Below.refl _ _ | refine Below.trans ?_ (Below.mono (by assumption) (by simp <;> omega)))
theorem Rx (kind mine AB yours seq AV stamp echo:Int) (zr zi:Nat) (A:Option Addr) (n c:Nat) (w:World) (h:kind < 1) :
  Calls Try.prog 63 #[.agg #[.int .i64 kind,.int .u32 mine,.int .u32 AB,.int .u32 yours,.int .u32 seq,.int .u32 AV,.int .u32 stamp,.int .u32 echo,.complex .f64 zr zi,.slice A n c]] w fun e w' => e = .returned (.int .i64 100) ∧ Below w.heap.size w w':=by
 have CP:=Try.underlying27
 go_enter Try.func63,Try.ntmps63
 go_wp2
 go_ret
 exact ⟨rfl,(Below.refl w.heap.size w).alloc (Nat.le_refl _) _⟩
theorem Ry (kind mine AB yours seq AV stamp echo:Int) (zr zi:Nat) (A:Option Addr) (n c:Nat) (w:World) (h:4 < kind) :
  Calls Try.prog 63 #[.agg #[.int .i64 kind,.int .u32 mine,.int .u32 AB,.int .u32 yours,.int .u32 seq,.int .u32 AV,.int .u32 stamp,.int .u32 echo,.complex .f64 zr zi,.slice A n c]] w fun e w' => e = .returned (.int .i64 100) ∧ Below w.heap.size w w':=by
 have CP:=Try.underlying27
 go_enter Try.func63,Try.ntmps63
 go_wp2
 go_ret
 exact ⟨rfl,(Below.refl w.heap.size w).alloc (Nat.le_refl _) _⟩
theorem Rz (mine AB yours seq AV stamp echo:Int) (zr zi:Nat) (A:Option Addr) (n c:Nat) (w:World) (h:1000 < n) :
  Calls Try.prog 63 #[.agg #[.int .i64 2,.int .u32 mine,.int .u32 AB,.int .u32 yours,.int .u32 seq,.int .u32 AV,.int .u32 stamp,.int .u32 echo,.complex .f64 zr zi,.slice A n c]] w fun e w' => e = .returned (.int .i64 102) ∧ Below w.heap.size w w':=by
 have CP:=Try.underlying27
 go_enter Try.func63,Try.ntmps63
 go_wp2
 go_ret
 exact ⟨rfl,(Below.refl w.heap.size w).alloc (Nat.le_refl _) _⟩
theorem ZC (mine AB yours seq AV stamp echo:Int) (zr zi:Nat) (A:Option Addr) (n c:Nat) (w:World) (hz0:0 ≤ mine) (hz1:0 ≤ AB) (hz2:0 ≤ yours) (hz3:0 ≤ seq) :
  Calls Try.prog 63 #[.agg #[.int .i64 1,.int .u32 mine,.int .u32 AB,.int .u32 yours,.int .u32 seq,.int .u32 AV,.int .u32 stamp,.int .u32 echo,.complex .f64 zr zi,.slice A n c]] w fun e w' => e = .returned (.int .i64 (if good1 mine AB yours seq AV stamp echo zr zi n = true then 0 else 101)) ∧ Below w.heap.size w w':=by
 have CP:=Try.underlying27
 cases hg:good1 mine AB yours seq AV stamp echo zr zi n
 all_goals
  have HG:=Lib.hid hg
  clear hg
  have H0:=Lib.hid hz0
  have H1:=Lib.hid hz1
  have H2:=Lib.hid hz2
  have H3:=Lib.hid hz3
  clear hz0 hz1 hz2 hz3
  go_enter Try.func63,Try.ntmps63
  go_wp2_with (go_at_call 98; refine (tC mine AB yours seq AV stamp echo zr zi A n c _ H0.out H1.out H2.out H3.out).mono ?_; rintro e w' ⟨rfl,hb⟩; rw [HG.out]; have hz:=hb.size; simp at hz)
  go_ret
  refine ⟨rfl,?_⟩
  repeat (first | refine Below.setCell ?_ (by simp <;> omega) _ | refine Below.alloc ?_ (by simp <;> omega) _ | exact Below.refl _ _ | refine Below.trans ?_ (Below.mono (by assumption) (by simp <;> omega)))
theorem ZE (mine AB yours seq AV stamp echo:Int) (zr zi:Nat) (A:Option Addr) (n c:Nat) (w:World) (hz0:0 ≤ mine) (hz1:0 ≤ AB) (hz2:0 ≤ yours) (hz3:0 ≤ seq) (hn:n ≤ 1000) :
  Calls Try.prog 63 #[.agg #[.int .i64 2,.int .u32 mine,.int .u32 AB,.int .u32 yours,.int .u32 seq,.int .u32 AV,.int .u32 stamp,.int .u32 echo,.complex .f64 zr zi,.slice A n c]] w fun e w' => e = .returned (.int .i64 (if I5 mine AB yours stamp echo zr zi n = true then 0 else 101)) ∧ Below w.heap.size w w':=by
 have CP:=Try.underlying27
 cases hg:I5 mine AB yours stamp echo zr zi n
 all_goals
  have HG:=Lib.hid hg
  clear hg
  have H0:=Lib.hid hz0
  have H1:=Lib.hid hz1
  have H2:=Lib.hid hz2
  have H3:=Lib.hid hz3
  clear hz0 hz1 hz2 hz3
  have HN:=Lib.hid hn
  go_enter Try.func63,Try.ntmps63
  go_wp2_with (go_at_call 98; refine (tH mine AB yours seq AV stamp echo zr zi A n c _ H0.out H1.out H2.out H3.out HN.out).mono ?_; rintro e w' ⟨rfl,hb⟩; rw [HG.out]; have hz:=hb.size; simp at hz)
  go_ret
  refine ⟨rfl,?_⟩
  repeat (first | refine Below.setCell ?_ (by simp <;> omega) _ | refine Below.alloc ?_ (by simp <;> omega) _ | exact Below.refl _ _ | refine Below.trans ?_ (Below.mono (by assumption) (by simp <;> omega)))
theorem ZF (mine AB yours seq AV stamp echo:Int) (zr zi:Nat) (A:Option Addr) (n c:Nat) (w:World) (hz0:0 ≤ mine) (hz1:0 ≤ AB) (hz2:0 ≤ yours) (hz3:0 ≤ seq) :
  Calls Try.prog 63 #[.agg #[.int .i64 3,.int .u32 mine,.int .u32 AB,.int .u32 yours,.int .u32 seq,.int .u32 AV,.int .u32 stamp,.int .u32 echo,.complex .f64 zr zi,.slice A n c]] w fun e w' => e = .returned (.int .i64 (if I7 mine AB yours seq stamp echo zr zi n = true then 0 else 101)) ∧ Below w.heap.size w w':=by
 have CP:=Try.underlying27
 cases hg:I7 mine AB yours seq stamp echo zr zi n
 all_goals
  have HG:=Lib.hid hg
  clear hg
  have H0:=Lib.hid hz0
  have H1:=Lib.hid hz1
  have H2:=Lib.hid hz2
  have H3:=Lib.hid hz3
  clear hz0 hz1 hz2 hz3
  go_enter Try.func63,Try.ntmps63
  go_wp2_with (go_at_call 98; refine (tJ mine AB yours seq AV stamp echo zr zi A n c _ H0.out H1.out H2.out H3.out).mono ?_; rintro e w' ⟨rfl,hb⟩; rw [HG.out]; have hz:=hb.size; simp at hz)
  go_ret
  refine ⟨rfl,?_⟩
  repeat (first | refine Below.setCell ?_ (by simp <;> omega) _ | refine Below.alloc ?_ (by simp <;> omega) _ | exact Below.refl _ _ | refine Below.trans ?_ (Below.mono (by assumption) (by simp <;> omega)))
theorem ZG (mine AB yours seq AV stamp echo:Int) (zr zi:Nat) (A:Option Addr) (n c:Nat) (w:World) (hz0:0 ≤ mine) (hz1:0 ≤ AB) (hz2:0 ≤ yours) (hz3:0 ≤ seq) (hp:zr < 18446744073709551616) (hq:zi < 18446744073709551616) :
  Calls Try.prog 63 #[.agg #[.int .i64 4,.int .u32 mine,.int .u32 AB,.int .u32 yours,.int .u32 seq,.int .u32 AV,.int .u32 stamp,.int .u32 echo,.complex .f64 zr zi,.slice A n c]] w fun e w' => e = .returned (.int .i64 (if Jo mine AB yours seq zr zi n = true then 0 else 101)) ∧ Below w.heap.size w w':=by
 have CP:=Try.underlying27
 cases hg:Jo mine AB yours seq zr zi n
 all_goals
  have HG:=Lib.hid hg
  clear hg
  have H0:=Lib.hid hz0
  have H1:=Lib.hid hz1
  have H2:=Lib.hid hz2
  have H3:=Lib.hid hz3
  clear hz0 hz1 hz2 hz3
  have HP:=Lib.hid hp
  have HQ:=Lib.hid hq
  clear hp hq
  go_enter Try.func63,Try.ntmps63
  go_wp2_with (go_at_call 98; refine (tK mine AB yours seq AV stamp echo zr zi A n c _ H0.out H1.out H2.out H3.out HP.out HQ.out).mono ?_; rintro e w' ⟨rfl,hb⟩; rw [HG.out]; have hz:=hb.size; simp at hz)
  go_ret
  refine ⟨rfl,?_⟩
  repeat (first | refine Below.setCell ?_ (by simp <;> omega) _ | refine Below.alloc ?_ (by simp <;> omega) _ | exact Below.refl _ _ | refine Below.trans ?_ (Below.mono (by assumption) (by simp <;> omega)))
theorem OD (kind mine AB yours seq AV stamp echo:Int) (zr zi:Nat) (A:Option Addr) (n c:Nat) (w:World) (hz0:0 ≤ mine) (hz1:0 ≤ AB) (hz2:0 ≤ yours) (hz3:0 ≤ seq) (hp:zr < 18446744073709551616) (hq:zi < 18446744073709551616) :
  Calls Try.prog 63 #[.agg #[.int .i64 kind,.int .u32 mine,.int .u32 AB,.int .u32 yours,.int .u32 seq,.int .u32 AV,.int .u32 stamp,.int .u32 echo,.complex .f64 zr zi,.slice A n c]] w fun e w' => e = .returned (.int .i64 (Bg kind mine AB yours seq AV stamp echo zr zi n)) ∧ Below w.heap.size w w':=by
 unfold Bg
 by_cases h1:kind = 1
 ·subst h1
  rw [if_pos rfl]
  exact ZC _ _ _ _ _ _ _ _ _ _ _ _ _ hz0 hz1 hz2 hz3
 rw [if_neg h1]
 by_cases h2:kind = 2
 ·subst h2
  rw [if_pos rfl]
  by_cases hn:1000 < n
  ·rw [if_pos hn]
   exact Rz _ _ _ _ _ _ _ _ _ _ _ _ _ hn
  ·rw [if_neg hn]
   exact ZE _ _ _ _ _ _ _ _ _ _ _ _ _ hz0 hz1 hz2 hz3 (by omega)
 rw [if_neg h2]
 by_cases h3:kind = 3
 ·subst h3
  rw [if_pos rfl]
  exact ZF _ _ _ _ _ _ _ _ _ _ _ _ _ hz0 hz1 hz2 hz3
 rw [if_neg h3]
 by_cases h4:kind = 4
 ·subst h4
  rw [if_pos rfl]
  exact ZG _ _ _ _ _ _ _ _ _ _ _ _ _ hz0 hz1 hz2 hz3 hp hq
 rw [if_neg h4]
 by_cases h5:kind < 1
 ·exact Rx _ _ _ _ _ _ _ _ _ _ _ _ _ _ h5
 ·exact Ry _ _ _ _ _ _ _ _ _ _ _ _ _ _ (by omega)
end Go.Proofs.Ytnkkgofpifhoeaa.Pk
end
section
namespace Go.Proofs.Ytnkkgofpifhoeaa.Rf
open Go.Proofs.Ytnkkgofpifhoeaa.Pk Go.RowKit Go.Proofs.Ytnkkgofpifhoeaa.Base Go.Proofs.Ytnkkgofpifhoeaa.Steps Go.Proofs.Ytnkkgofpifhoeaa.Lk Go.Proofs.YtnkkgofpifhoeaaW.PrintWords Go.Proofs.YtnkkgofpifhoeaaW.PrintLast
theorem Fm.four (w:World) (a b c d:Array Value) (ta tb tc td:Nat):Fm w ((((w.alloc (.cells a ta)).alloc (.cells b tb)).alloc (.cells c tc)).alloc (.cells d td)) [(w.heap.size,ta),(w.heap.size + 1,tb),(w.heap.size + 2,tc),(w.heap.size + 3,td)] [a,b,c,d]:=by
 have h2:=Io ((w.alloc (.cells a ta)).alloc (.cells b tb)) (.cells c tc) (.cells d td)
 have hs:((w.alloc (.cells a ta)).alloc (.cells b tb)).heap.size = w.heap.size + 2:=by simp
 rw [hs] at h2
 have k0:=Jq ((w.alloc (.cells a ta)).alloc (.cells b tb)) (.cells c tc) (.cells d td)
 have k1:=Ij ((w.alloc (.cells a ta)).alloc (.cells b tb)) (.cells c tc) (.cells d td)
 rw [hs] at k0 k1
 refine ⟨(Io w _ _).trans (h2.mono (by omega)),fun i x y hi hy => ?_,fun x hx => ?_,fun x hx => ?_,fun i j x y hi hj hn => ?_⟩
 ·match i,hi,hy with
  | 0,hi,hy => cases hi; cases hy; exact (h2.block _ (by omega)).trans (Jq _ _ _)
  | 1,hi,hy => cases hi; cases hy; exact (h2.block _ (by omega)).trans (Ij _ _ _)
  | 2,hi,hy => cases hi; cases hy; exact k0
  | 3,hi,hy => cases hi; cases hy; exact k1
 ·simp only [List.mem_cons,List.not_mem_nil,or_false] at hx
  rcases hx with h | h | h | h <;> subst h <;> simp <;> omega
 ·simp only [List.mem_cons,List.not_mem_nil,or_false] at hx
  rcases hx with h | h | h | h <;> subst h <;> simp <;> omega
 ·have hi5:i < 4:=by have:=(List.getElem?_eq_some_iff.1 hi).1; simpa using this
  have zZ:j < 4:=by have:=(List.getElem?_eq_some_iff.1 hj).1; simpa using this
  have hx:x.1 = w.heap.size + i:=by
   match i,hi with
   | 0,hi => cases hi; rfl
   | 1,hi => cases hi; rfl
   | 2,hi => cases hi; rfl
   | 3,hi => cases hi; rfl
  have hy:y.1 = w.heap.size + j:=by
   match j,hj with
   | 0,hj => cases hj; rfl
   | 1,hj => cases hj; rfl
   | 2,hj => cases hj; rfl
   | 3,hj => cases hj; rfl
  omega
theorem Z2 {p:Prop} (h:p:=by
 all_goals (
  go_enter Try.func119,Try.ntmps119
  go_wp2_with (first | (go_at_call 63; (have F2:=Fm.four w #[.int .u32 L.own,.int .i64 L.phase,.int .u32 L.token,.int .u32 L.AB,.int .u32 L.yours,.bool L.known,.slice Aq L.queue.length cq,.int .i64 L.sent,.int .u32 nx,.int .u32 L.expected,.int .i64 L.idle,.slice Ao L.out.length co] #[.int .i64 p.kind,.int .u32 p.mine,.int .u32 p.AB,.int .u32 p.yours,.int .u32 p.seq,.int .u32 p.AV,.int .u32 p.stamp,.int .u32 p.echo,.complex .f64 p.zr p.zi,.slice Ab p.body.length cb] #[.int .u32 0,.int .i64 0,.int .u32 0,.int .u32 0,.int .u32 0,.bool false,.slice none 0 0,.int .i64 0,.int .u32 0,.int .u32 0,.int .i64 0,.slice none 0 0] #[.bool false,.bool false,.bool false,.slice none 0 0] 78 27 78 194); (obtain ⟨w0,hw0⟩:∃ w0,w0 = ((((w.alloc (.cells #[.int .u32 L.own,.int .i64 L.phase,.int .u32 L.token,.int .u32 L.AB,.int .u32 L.yours,.bool L.known,.slice Aq L.queue.length cq,.int .i64 L.sent,.int .u32 nx,.int .u32 L.expected,.int .i64 L.idle,.slice Ao L.out.length co] 78)).alloc (.cells #[.int .i64 p.kind,.int .u32 p.mine,.int .u32 p.AB,.int .u32 p.yours,.int .u32 p.seq,.int .u32 p.AV,.int .u32 p.stamp,.int .u32 p.echo,.complex .f64 p.zr p.zi,.slice Ab p.body.length cb] 27)).alloc (.cells #[.int .u32 0,.int .i64 0,.int .u32 0,.int .u32 0,.int .u32 0,.bool false,.slice none 0 0,.int .i64 0,.int .u32 0,.int .u32 0,.int .i64 0,.slice none 0 0] 78)).alloc (.cells #[.bool false,.bool false,.bool false,.slice none 0 0] 194)):=⟨_,rfl⟩); (rw [← hw0] at F2 ⊢); (have E2:=Lib.hid ((HE.out.up F2.up).below F2.bw)); (clear hw0); (have F:=Lib.hid F2); (clear F2); (have E:=E2); (clear E2); (refine Go.Calls.mono (OD _ _ _ _ _ _ _ _ _ _ _ _ _ w0 HR.out.1 HR.out.2.1 HR.out.2.2.1 HR.out.2.2.2.1 HR.out.2.2.2.2.1 HR.out.2.2.2.2.2) ?_); (intro e w1 hq); (obtain ⟨he,hb2⟩:=hq); (rw [HC.out] at he); (subst he); (have BM:=E.out.below hb2); (have F2:=Lib.hid (F.out.below hb2)); (have E2:=Lib.hid BM); (clear hb2 BM); (clear F E); (have F:=F2); (have E:=E2); (clear F2 E2); (have Cb:=F.out.CO 0 rfl rfl); (have hcP:=F.out.CO 1 rfl rfl)) | (refine F.out.ld 0 rfl 78 (.tmp 3) rfl rfl rfl rfl Try.underlying78 rfl (by kernel_rfl) ?_) | (refine F.out.ld 1 rfl 27 (.tmp 5) rfl rfl rfl rfl Try.underlying27 rfl (by kernel_rfl) ?_) | ((refine F.out.st 2 rfl rfl 78 (.tmp 6) _ rfl rfl rfl rfl rfl (by kernel_rfl) rfl (by kernel_rfl) ?_); (clear Cb hcP); (intro W2 hF hA); (have F2:=Lib.hid hF); (have E2:=Lib.hid (E.out.keep (AP hA (AX 2 rfl)))); (clear hF hA); (clear F E); (have F:=F2); (have E:=E2); (clear F2 E2); (have Cb:=F.out.CO 0 rfl rfl); (have hcP:=F.out.CO 1 rfl rfl)) | ((refine F.out.st 3 rfl rfl 194 (.tmp 7) _ rfl rfl rfl rfl rfl (by kernel_rfl) rfl (by kernel_rfl) ?_); (clear Cb hcP); (intro W2 hF hA); (have F2:=Lib.hid hF); (have E2:=Lib.hid (E.out.keep (AP hA (AX 3 rfl)))); (clear hF hA); (clear F E); (have F:=F2); (have E:=E2); (clear F2 E2); (have Cb:=F.out.CO 0 rfl rfl); (have hcP:=F.out.CO 1 rfl rfl)) | (go_at_call 131; (refine Go.Calls.mono (show Calls Try.prog 131 _ _ _ from kS (F.out.slt HS.out) Jf.out E.out AB p Ab p.body.length cb _ HP.out) ?_); (intro e w1 hq); (clear Cb hcP); (obtain ⟨⟨v,he,IW⟩,hb2⟩:=hq); (obtain ⟨Ed,A7,c7,A8,c8,hv,BM⟩:=IW); (subst hv); (subst he); (have F2:=Lib.hid (F.out.below hb2)); (have E2:=Lib.hid BM); (clear hb2 BM); (clear F E); (have F:=F2); (have E:=E2); (clear F2 E2); (have Cb:=F.out.CO 0 rfl rfl); (have hcP:=F.out.CO 1 rfl rfl)) | (go_at_call 132; (refine Go.Calls.mono (UM _ L nx Aq L.queue.length cq Ao L.out.length co p Ab p.body.length cb) ?_); (intro e w1 hq); (obtain ⟨he,hb2⟩:=hq); (rw [HM.out] at he); (subst he); (have BM:=E.out.below hb2); (clear Cb hcP); (have F2:=Lib.hid (F.out.below hb2)); (have E2:=Lib.hid BM); (clear hb2 BM); (clear F E); (have F:=F2); (have E:=E2); (clear F2 E2); (have Cb:=F.out.CO 0 rfl rfl); (have hcP:=F.out.CO 1 rfl rfl)))
  have Dt:=run_loadVar_row (P:=Try.prog) _ _ 78 78 _ (0,0) _ (F.out.get 2 rfl rfl) Try.underlying78 rfl (by kernel_rfl)
  have Jd:=run_loadVar_row (P:=Try.prog) _ _ 194 194 _ (0,0) _ (F.out.get 3 rfl rfl) Try.underlying194 rfl (by kernel_rfl)
  refine bodyPost_ret (v:=_) (D6 Try.results119 _ _ _ rfl rfl rfl Dt Jd) rfl ?_
  exact ⟨⟨_,rfl,_,_,_,_,_,rfl,E.out.up EH⟩,F.out.bw⟩)):p:=h
theorem OE {S:Nat → Prop} {w:World} (hS:∀ k,S k → k < w.heap.size) {L:Lk} (hok:L.Ok) {nx:Int} {Aq:Option Addr} {cq:Nat} {Ao:Option Addr} {co:Nat} (h:RE S w L nx Aq cq Ao co) (AB:Int) (p:Bz) (Ab:Option Addr) (cb:Nat) (hr:0 ≤ p.mine ∧ 0 ≤ p.AB ∧ 0 ≤ p.yours ∧ 0 ≤ p.seq ∧ p.zr < 18446744073709551616 ∧ p.zi < 18446744073709551616) (hc:Bg p.kind p.mine p.AB p.yours p.seq p.AV p.stamp p.echo p.zr p.zi p.body.length = 0) (hb:(AB == 0) = false) (hR:((L.phase == 0) = true ∧ (((AB < L.AB ∧ decide (AB < L.AB) = true) ∧ (AB == L.AB) = false) ∨ ((¬ AB < L.AB ∧ decide (AB < L.AB) = false) ∧ (AB == L.AB) = true ∧ (p.mine < L.yours ∧ decide (p.mine < L.yours) = true) ∧ (p.mine == L.yours) = false) ∨ ((¬ AB < L.AB ∧ decide (AB < L.AB) = false) ∧ (AB == L.AB) = true ∧ (¬ p.mine < L.yours ∧ decide (p.mine < L.yours) = false) ∧ (p.mine == L.yours) = true) ∨ ((¬ AB < L.AB ∧ decide (AB < L.AB) = false) ∧ (AB == L.AB) = true ∧ (¬ p.mine < L.yours ∧ decide (p.mine < L.yours) = false) ∧ (p.mine == L.yours) = false) ∨ ((¬ AB < L.AB ∧ decide (AB < L.AB) = false) ∧ (AB == L.AB) = false))) ∨ ((L.phase == 0) = false ∧ (((AB < L.AB ∧ decide (AB < L.AB) = true) ∧ (AB == L.AB) = false) ∨ ((¬ AB < L.AB ∧ decide (AB < L.AB) = false) ∧ (AB == L.AB) = true ∧ (p.mine < L.yours ∧ decide (p.mine < L.yours) = true) ∧ (p.mine == L.yours) = false)))) :
  Calls Try.prog 119 #[EV L nx Aq L.queue.length cq Ao L.out.length co,.int .u32 AB,.agg #[.int .i64 p.kind,.int .u32 p.mine,.int .u32 p.AB,.int .u32 p.yours,.int .u32 p.seq,.int .u32 p.AV,.int .u32 p.stamp,.int .u32 p.echo,.complex .f64 p.zr p.zi,.slice Ab p.body.length cb]] w fun e w' => (∃ v,e = .returned (.tuple #[v,gQ ((L,⟨false,false,false,[]⟩):Lk × Tk).2 (.slice none 0 0),.int .i64 0]) ∧ RV S w' ((L,⟨false,false,false,[]⟩):Lk × Tk).1 v) ∧ Below w.heap.size w w':=by
 have Jf:=Lib.hid hok
 have HE:=Lib.hid h
 have HS:=Lib.hid hS
 have HR:=Lib.hid hr
 have HC:=Lib.hid hc
 have Df:=Try.underlying78
 have CP:=Try.underlying27
 have PK:=Try.underlying194
 clear h hS hok hr hc
 rcases hR with ⟨hq0,(⟨⟨hp1,hd1⟩,hd2⟩ | ⟨⟨hp1,hd1⟩,hd2,⟨hp3,hd3⟩,hd4⟩ | ⟨⟨hp1,hd1⟩,hd2,⟨hp3,hd3⟩,hd4⟩ | ⟨⟨hp1,hd1⟩,hd2,⟨hp3,hd3⟩,hd4⟩ | ⟨⟨hp1,hd1⟩,hd2⟩)⟩ | ⟨hq0,(⟨⟨hp1,hd1⟩,hd2⟩ | ⟨⟨hp1,hd1⟩,hd2,⟨hp3,hd3⟩,hd4⟩)⟩
 all_goals exact Z2
theorem SA {S:Nat → Prop} {w:World} (hS:∀ k,S k → k < w.heap.size) {L:Lk} (hok:L.Ok) {nx:Int} {Aq:Option Addr} {cq:Nat} {Ao:Option Addr} {co:Nat} (h:RE S w L nx Aq cq Ao co) (AB:Int) (p:Bz) (Ab:Option Addr) (cb:Nat) (hr:0 ≤ p.mine ∧ 0 ≤ p.AB ∧ 0 ≤ p.yours ∧ 0 ≤ p.seq ∧ p.zr < 18446744073709551616 ∧ p.zi < 18446744073709551616) (hc:Bg p.kind p.mine p.AB p.yours p.seq p.AV p.stamp p.echo p.zr p.zi p.body.length = 0) (hb:(AB == 0) = false) (hq0:(L.phase == 0) = false) (hp:L.phase ≠ 0) (hk:(p.kind == 1) = true) (same:Bool) (hR:(same = true ∧ (((¬ AB < L.AB ∧ decide (AB < L.AB) = false) ∧ (AB == L.AB) = true ∧ (¬ p.mine < L.yours ∧ decide (p.mine < L.yours) = false) ∧ (p.mine == L.yours) = true))) ∨ (same = false ∧ (((¬ AB < L.AB ∧ decide (AB < L.AB) = false) ∧ (AB == L.AB) = true ∧ (¬ p.mine < L.yours ∧ decide (p.mine < L.yours) = false) ∧ (p.mine == L.yours) = false) ∨ ((¬ AB < L.AB ∧ decide (AB < L.AB) = false) ∧ (AB == L.AB) = false)))) :
  Calls Try.prog 119 #[EV L nx Aq L.queue.length cq Ao L.out.length co,.int .u32 AB,.agg #[.int .i64 p.kind,.int .u32 p.mine,.int .u32 p.AB,.int .u32 p.yours,.int .u32 p.seq,.int .u32 p.AV,.int .u32 p.stamp,.int .u32 p.echo,.complex .f64 p.zr p.zi,.slice Ab p.body.length cb]] w fun e w' => (∃ v,e = .returned (.tuple #[v,gQ (JH L AB p same).2 (.slice none 0 0),.int .i64 0]) ∧ RV S w' (JH L AB p same).1 v) ∧ Below w.heap.size w w':=by
 have Jf:=Lib.hid hok
 have HE:=Lib.hid h
 have HS:=Lib.hid hS
 have HR:=Lib.hid hr
 have HC:=Lib.hid hc
 have Df:=Try.underlying78
 have CP:=Try.underlying27
 have PK:=Try.underlying194
 clear h hS hok hr hc
 have HP:=Lib.hid hp
 clear hp
 rcases hR with ⟨rfl,(⟨⟨hp1,hd1⟩,hd2,⟨hp3,hd3⟩,hd4⟩)⟩ | ⟨rfl,(⟨⟨hp1,hd1⟩,hd2,⟨hp3,hd3⟩,hd4⟩ | ⟨⟨hp1,hd1⟩,hd2⟩)⟩
 all_goals exact Z2
theorem Ug {S:Nat → Prop} {w:World} (hS:∀ k,S k → k < w.heap.size) {L:Lk} (hok:L.Ok) {nx:Int} {Aq:Option Addr} {cq:Nat} {Ao:Option Addr} {co:Nat} (h:RE S w L nx Aq cq Ao co) (AB:Int) (p:Bz) (Ab:Option Addr) (cb:Nat) (hr:0 ≤ p.mine ∧ 0 ≤ p.AB ∧ 0 ≤ p.yours ∧ 0 ≤ p.seq ∧ p.zr < 18446744073709551616 ∧ p.zi < 18446744073709551616) (hc:Bg p.kind p.mine p.AB p.yours p.seq p.AV p.stamp p.echo p.zr p.zi p.body.length = 0) (hb:(AB == 0) = false) (hq0:(L.phase == 0) = false) (hk:(p.kind == 1) = false) (hR:((L.phase != 2) = true ∧ (((¬ AB < L.AB ∧ decide (AB < L.AB) = false) ∧ (AB == L.AB) = true ∧ (¬ p.mine < L.yours ∧ decide (p.mine < L.yours) = false) ∧ (p.mine == L.yours) = true) ∨ ((¬ AB < L.AB ∧ decide (AB < L.AB) = false) ∧ (AB == L.AB) = true ∧ (¬ p.mine < L.yours ∧ decide (p.mine < L.yours) = false) ∧ (p.mine == L.yours) = false) ∨ ((¬ AB < L.AB ∧ decide (AB < L.AB) = false) ∧ (AB == L.AB) = false))) ∨ ((L.phase != 2) = false ∧ (((¬ AB < L.AB ∧ decide (AB < L.AB) = false) ∧ (AB == L.AB) = true ∧ (¬ p.mine < L.yours ∧ decide (p.mine < L.yours) = false) ∧ (p.mine == L.yours) = false) ∨ ((¬ AB < L.AB ∧ decide (AB < L.AB) = false) ∧ (AB == L.AB) = false))) ∨ ((L.phase != 2) = false ∧ ((¬ AB < L.AB ∧ decide (AB < L.AB) = false) ∧ (AB == L.AB) = true ∧ (¬ p.mine < L.yours ∧ decide (p.mine < L.yours) = false) ∧ (p.mine == L.yours) = true) ∧ Hid (BI L p = false))) :
  Calls Try.prog 119 #[EV L nx Aq L.queue.length cq Ao L.out.length co,.int .u32 AB,.agg #[.int .i64 p.kind,.int .u32 p.mine,.int .u32 p.AB,.int .u32 p.yours,.int .u32 p.seq,.int .u32 p.AV,.int .u32 p.stamp,.int .u32 p.echo,.complex .f64 p.zr p.zi,.slice Ab p.body.length cb]] w fun e w' => (∃ v,e = .returned (.tuple #[v,gQ ((L,⟨false,false,false,[]⟩):Lk × Tk).2 (.slice none 0 0),.int .i64 0]) ∧ RV S w' ((L,⟨false,false,false,[]⟩):Lk × Tk).1 v) ∧ Below w.heap.size w w':=by
 have Jf:=Lib.hid hok
 have HE:=Lib.hid h
 have HS:=Lib.hid hS
 have HR:=Lib.hid hr
 have HC:=Lib.hid hc
 have Df:=Try.underlying78
 have CP:=Try.underlying27
 have PK:=Try.underlying194
 clear h hS hok hr hc
 rcases hR with ⟨hq2,(⟨⟨hp1,hd1⟩,hd2,⟨hp3,hd3⟩,hd4⟩ | ⟨⟨hp1,hd1⟩,hd2,⟨hp3,hd3⟩,hd4⟩ | ⟨⟨hp1,hd1⟩,hd2⟩)⟩ | ⟨hq2,(⟨⟨hp1,hd1⟩,hd2,⟨hp3,hd3⟩,hd4⟩ | ⟨⟨hp1,hd1⟩,hd2⟩)⟩ | ⟨hq2,⟨⟨hp1,hd1⟩,hd2,⟨hp3,hd3⟩,hd4⟩,HM⟩
 all_goals exact Z2
end Go.Proofs.Ytnkkgofpifhoeaa.Rf
end
