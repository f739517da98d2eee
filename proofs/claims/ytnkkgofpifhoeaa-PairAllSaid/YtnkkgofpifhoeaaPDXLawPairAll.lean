/- The law PairAll holds: once both ends of a pair are up, whatever a script did to it, all that is sent then is got, once, in order, though each packet is lost in the first rounds. For every script, every slice of byte slices and every small number that can be read; no condition. -/
import Derived.Test.YtnkkgofpifhoeaaPD7
import Derived.SizedLaws
import Derived.ChangeSlices
import Derived.Test.YtnkkgofpifhoeaaRows
import Derived.OpenShut
import Derived.ShutString
import Derived.ChangeOld
import Derived.Deep.Matrix
set_option linter.unusedSimpArgs false
set_option linter.unusedVariables false
section
namespace Go.Proofs.Ytnkkgofpifhoeaa.Pr
open Go.RowKit Go.Proofs.Ytnkkgofpifhoeaa.Base Go.Proofs.Ytnkkgofpifhoeaa.Steps Go.Proofs.Ytnkkgofpifhoeaa.Lk Go.Proofs.Ytnkkgofpifhoeaa.Win Go.Proofs.YtnkkgofpifhoeaaW.PrintWords Go.Proofs.YtnkkgofpifhoeaaW.PrintLast
theorem delN_succ (n:Nat):∀ X:Pr,delN (n + 1) X = hdX (delN n X):=by
 induction n with
 | zero => exact fun X => rfl
 | succ n ih => exact fun X => ih (hdX X)
end Go.Proofs.Ytnkkgofpifhoeaa.Pr
end
section
namespace Go.Proofs.Ytnkkgofpifhoeaa.Pr
open Go.RowKit Go.Proofs.Ytnkkgofpifhoeaa.Base Go.Proofs.Ytnkkgofpifhoeaa.Steps Go.Proofs.Ytnkkgofpifhoeaa.Lk Go.Proofs.Ytnkkgofpifhoeaa.Win Go.Proofs.YtnkkgofpifhoeaaW.PrintWords Go.Proofs.YtnkkgofpifhoeaaW.PrintLast
def opS:Nat → Pr → Pr
 | 0,X => X
 | s + 1,X => opX (opS s X) s
theorem opS_two (l:List Act):opS 2 (runX newX l) = scX l:=rfl
theorem opS_ri {l:List Act} (hl:l.length ≤ 400):∀ s,s ≤ 2 → RI (opS s (runX newX l)) (l.length + s)
 | 0,_ => by
  have:=ri_run l ri_new (by omega)
  rwa [Nat.zero_add] at this
 | s + 1,h => (op_do (opS_ri hl s (by omega)) (by omega) (by omega)).1
theorem rj_rounds (j:Nat):∀ {X:Pr} {N:Nat},RJ X N → Live X → N + j * 1026 < 4294967295 → RJ (rounds j X) (N + j * 1026) ∧ Live (rounds j X):=by
 induction j with
 | zero => intro X N h hl hN; exact ⟨by rw [Nat.zero_mul]; exact h,hl⟩
 | succ j ih =>
  intro X N h hl hN
  have hN':N + 1026 < 4294967295:=by omega
  obtain ⟨a,b,_⟩:=round_ind (P:=fun _ _ _ => True) h hN' hl (fun _ _ _ _ _ _ _ _ _ => trivial) trivial
  obtain ⟨c,d⟩:=ih a b (by omega)
  rw [show N + 1026 + j * 1026 = N + (j + 1) * 1026 by omega] at c
  exact ⟨c,d⟩
theorem RJ.inv {X:Pr} {N:Nat} (h:RJ X N):Inv X N:=by
 obtain ⟨M,hM,hr⟩:=h
 exact ⟨hr.inv.p.more hM,hr.inv.out⟩
theorem rounds_succ' (n:Nat) (X:Pr):rounds (n + 1) X = roundX (rounds n X):=by rw [rounds_add]; rfl
theorem sc_inv {l:List Act} (hl:l.length ≤ 400) (j:Nat) (hj:j ≤ 64):Inv (rounds j (scX l)) (402 + j * 1026):=by
 obtain ⟨a,b,c,d⟩:=sc_rk hl
 exact (rj_rounds j (N:=402) ⟨l.length + 2,by omega,a⟩ c (by omega)).1.inv
end Go.Proofs.Ytnkkgofpifhoeaa.Pr
end
section
namespace Go.Proofs.Ytnkkgofpifhoeaa.Pr
open Go.RowKit Go.Proofs.Ytnkkgofpifhoeaa.Base Go.Proofs.Ytnkkgofpifhoeaa.Steps Go.Proofs.Ytnkkgofpifhoeaa.Lk Go.Proofs.Ytnkkgofpifhoeaa.Win Go.Proofs.YtnkkgofpifhoeaaW.PrintWords Go.Proofs.YtnkkgofpifhoeaaW.PrintLast
def strs:Kd ByteArray:=Kd.scalar Value.string (fun _ => rfl)
structure PS (w0:World) (gp:Nat) (V:Nat → Prop) (v:Value) (ss:List ByteArray) (X:Pr) (wr:World):Prop where
 whole:Whole wr w0.heap.size gp (fun k => w0.heap.size ≤ k ∧ ¬ V k) X
 below:Below w0.heap.size w0 wr
 gpV:¬ V gp
 lt:∀ k,V k → w0.heap.size ≤ k ∧ k < wr.heap.size
 row:strs.R 9 wr w0.heap.size V v ss
section
variable {w0 wr w1:World} {gp:Nat} {V:Nat → Prop} {v:Value} {ss:List ByteArray} {X Y:Pr}
theorem PP.ps (h:PP w0 gp X wr):PS w0 gp (fun _ => False) (.slice none 0 0) [] X wr:=⟨h.whole.mono (fun k hk => ⟨hk,id⟩),h.below,id,fun _ hf => hf.elim,Kd.R_nil _ _ _ _ _⟩
theorem PS.pp (h:PS w0 gp V v ss X wr):PP w0 gp X wr:=⟨h.whole.mono (fun _ hk => hk.1),h.below⟩
theorem PS.sub (h:PS w0 gp V v ss X wr) (hb:Below wr.heap.size wr w1):PS w0 gp V v ss X w1 :=
 ⟨h.whole.sub hb,h.below.trans (hb.mono h.below.size),h.gpV,fun k hk => ⟨(h.lt k hk).1,Nat.lt_of_lt_of_le (h.lt k hk).2 hb.size⟩,Kd.R_below h.row hb⟩
theorem PS.turn (h:PS w0 gp V v ss X wr) (ht:WTurn wr w0.heap.size gp (fun k => w0.heap.size ≤ k ∧ ¬ V k) Y w1):PS w0 gp V v ss Y w1:=by
 refine ⟨ht.1.mono (fun k hk => hk.elim id (fun x => ⟨Nat.le_trans h.below.size x,fun hv => ?_⟩)),h.below.trans ht.2.2,h.gpV,fun k hk => ⟨(h.lt k hk).1,Nat.lt_of_lt_of_le (h.lt k hk).2 ht.2.1.1⟩,Kd.R_kept h.row ht.2.1 (fun k hk hx => hx.elim (fun e => h.gpV (e ▸ hk)) (fun y => y.2 hk))⟩
 have:=(h.lt k hv).2
 omega
theorem do_ps {N:Nat} (h:PS w0 gp V v ss X wr) (hI:Inv X N) (hN:N ≤ 900000) (a:Act) (Ab:Option Addr) (cb:Nat) (hC:a.kind = 3 → (Kd.int .u8).C w0 Ab a.body.length a.body) :
  Calls Try.prog 41 #[.pointer (some ⟨gp,0,none⟩),.agg #[.int .i64 a.kind,.int .i64 a.side,.int .i64 a.i,.slice Ab a.body.length cb]] wr fun e w' => e = .returned (.int .i64 (doE X a)) ∧ PS w0 gp V v ss (doX X a) w':=by
 refine (do_w h.whole hI hN a Ab cb (fun h3 W' hk => bytes_move (hC h3) (fun k hlt => ?_))).mono fun e w' hq => ⟨hq.1,h.turn hq.2⟩
 have hgp:=h.pp.gp
 have hz:=h.below.size
 rw [hk.2 k (by omega) (fun hx => by omega),h.below.block k hlt]
theorem act0_ps {N:Nat} (h:PS w0 gp V v ss X wr) (hI:Inv X N) (hN:N ≤ 900000) (k s i:Int) (hk:k ≠ 3) :
  Calls Try.prog 41 #[.pointer (some ⟨gp,0,none⟩),.agg #[.int .i64 k,.int .i64 s,.int .i64 i,.slice none 0 0]] wr fun e w' => (∃ E:Int,e = .returned (.int .i64 E)) ∧ PS w0 gp V v ss (doX X ⟨k,s,i,[]⟩) w' :=
 (do_ps h hI hN ⟨k,s,i,[]⟩ none 0 (fun hx => absurd hx hk)).mono fun e w' hq => ⟨⟨_,hq.1⟩,hq.2⟩
theorem snd_ps {N:Nat} (h:PS w0 gp V v ss X wr) (hI:Inv X N) (hN:N ≤ 900000) (h2:(X.en 0).phase = 2) (hq:qN 0 X < 64) (b:List Int) (nb:Nat) (hnb:b.length = nb) (Ab:Option Addr) (cb:Nat) (hC:(Kd.int .u8).C w0 Ab b.length b) :
  Calls Try.prog 41 #[.pointer (some ⟨gp,0,none⟩),.agg #[.int .i64 3,.int .i64 0,.int .i64 0,.slice Ab nb cb]] wr fun e w' => e = .returned (.int .i64 (if okB b then 0 else 112)) ∧ PS w0 gp V v ss (doX X (sndA b)) w':=by
 subst hnb
 refine (do_ps h hI hN (sndA b) Ab cb (fun _ => hC)).mono fun e w' hqq => ⟨hqq.1.trans (by rw [snd_E h2 hq b]),hqq.2⟩
theorem PS.app (h:PS w0 gp V v ss X wr) {v1:Value} {ss1:List ByteArray} (hR:strs.R 9 w1 w0.heap.size (fun k => V k ∨ wr.heap.size ≤ k) v1 ss1) (hB:Below w0.heap.size w0 w1) (hg:wr.grownBy w1 v.ownBlock) :
  PS w0 gp (fun k => (V k ∨ wr.heap.size ≤ k) ∧ w0.heap.size ≤ k ∧ k < w1.heap.size) v1 ss1 X w1:=by
 have hgp:=h.pp.gp
 have hk:Kept wr w1 (fun k => some k = v.ownBlock):=⟨hg.size,fun i hi hs => hg.block i hi hs⟩
 have hv:∀ k,some k = v.ownBlock → V k:=fun k hk => h.row.1 k hk.symm
 have hgV:=h.gpV
 obtain ⟨ge,own,lv,wv,hP,hU⟩:=h.whole
 have hP':=hP.kept hk (fun x => hgV (hv _ x)) (fun i k hx hs => (hU i k hx).2 (hv _ hs))
 refine ⟨⟨ge,own,lv,wv,hP',fun i k hx => ⟨(hU i k hx).1,fun hn => ?_⟩⟩,hB,fun hn => ?_,fun k hk => hk.2,?_⟩
 ·rcases hn.1 with hn | hn
  ·exact (hU i k hx).2 hn
  ·have:=hP.lt i k hx; omega
 ·rcases hn.1 with hn | hn
  ·exact hgV hn
  ·omega
 ·exact Kd.R_mono (Kd.R_bound hR) (fun k hk => ⟨hk.1,hk.2.1,hk.2.2.1⟩)
end
set_option maxRecDepth 100000 in
set_option maxHeartbeats 2000000 in
theorem round_ps {w0 wr:World} {gp N:Nat} {V:Nat → Prop} {v:Value} {ss:List ByteArray} {X:Pr} (h:PS w0 gp V v ss X wr) (hI:Inv X N) (hN:N + 1026 ≤ 900000):Calls Try.prog 42 #[.pointer (some ⟨gp,0,none⟩)] wr fun e w' => e = .returned (.tuple #[]) ∧ PS w0 gp V v ss (roundX X) w':=by
 have HP:=Lib.hid h
 have hI1:=do_inv hI (by omega) ⟨4,0,0,[]⟩
 have hI2:=do_inv hI1 (by omega) ⟨4,1,0,[]⟩
 have HI2:=Lib.hid (show Inv (tkX X) (N + 1 + 1) from hI2)
 have hw:=hI2.p.way
 have HW:=Lib.hid (show (tkX X).way.length ≤ 1024 from hw)
 have HC1:=Lib.hid (act0_ps h hI (by omega) 4 0 0 (by decide))
 have HC2:=Lib.hid (fun (w1:World) (h1:PS w0 gp V v ss (doX X ⟨4,0,0,[]⟩) w1) => act0_ps h1 hI1 (by omega) 4 1 0 (by decide))
 have HN:=Lib.hid hN
 clear h hI1 hI2 hw hN
 go_enter Try.func42,Try.ntmps42
 go_wp2_with (first | (go_at_call 41; (have hc:=HC1.out); (with_reducible refine hc.mono ?_); clear hc; rintro e w1 ⟨⟨E1,rfl⟩,hP1⟩; (have HP1:=Lib.hid hP1); clear hP1) | (go_at_call 41; (have hc:=HC2.out w1 HP1.out); (with_reducible refine hc.mono ?_); clear hc; rintro e w2 ⟨⟨E2,rfl⟩,hP2⟩; (have HP2:=Lib.hid (show PS w0 gp V v ss (tkX X) w2 from hP2)); clear hP2) | (go_at_call 43; (have hc:=flight_pp HP2.out.pp); (with_reducible refine hc.mono ?_); clear hc; rintro e w9 ⟨rfl,rfl⟩))
 have hnn:=HW.out
 have hex:∃ n:Nat,(tkX X).way.length = n:=⟨_,rfl⟩
 obtain ⟨n,hn⟩:=hex
 rw [hn] at hnn ⊢
 have HNN:=Lib.hid hn
 have HLN:=Lib.hid hnn
 clear hn hnn
 go_loopg [2] n (fun g vv wr => ∃ m:Nat,g = m ∧ m ≤ n ∧ vv = .int .i64 (m:Int) ∧ PS w0 gp V v ss (delN (n - m) (tkX X)) wr)
 case atStart => exact ⟨n,rfl,Nat.le_refl _,rfl,by rw [Nat.sub_self]; exact HP2.out⟩
 case round =>
  obtain ⟨m,hg,hm,rfl,hP⟩:=hrel
  have HG:=Lib.hid hg
  clear hg
  have HM:=Lib.hid hm
  have HPR:=Lib.hid hP
  clear hm hP
  have hm2:=HM.out
  have hl2:=HLN.out
  by_cases hlt:0 < m
  ·have hd:decide ((m:Int) > 0) = true:=by simp; omega
   have hi:=delN_inv (n - m) HI2.out (by have:=HN.out; omega)
   have hc0:=act0_ps HPR.out hi (by have:=HN.out; omega) 6 0 0 (by decide)
   have e1:doX (delN (n - m) (tkX X)) ⟨6,0,0,[]⟩ = delN (n - (m - 1)) (tkX X):=by
    rw [show n - (m - 1) = (n - m) + 1 by omega,delN_succ]; rfl
   rw [e1] at hc0
   have HC0:=Lib.hid hc0
   clear hc0 e1 hi
   go_wp2_with (go_at_call 41; (have hc:=HC0.out); (with_reducible refine hc.mono ?_); clear hc; rintro e w3 ⟨⟨E3,rfl⟩,hP3⟩; (have HP3:=Lib.hid hP3); clear hP3)
   go_roundg (m - 1)
   case measure => have:=HG.out; omega
   case rel => exact ⟨m - 1,rfl,by omega,by first | rfl | (go_num; done) | (congr 1; go_num),HP3.out⟩
  ·have hd:decide ((m:Int) > 0) = false:=by simp; omega
   have hz:m = 0:=by omega
   subst hz
   go_wp2_with fail
   go_end0
   refine ⟨rfl,?_⟩
   have:=HPR.out
   rw [Nat.sub_zero] at this
   unfold roundX
   rw [HNN.out]
   exact this
end Go.Proofs.Ytnkkgofpifhoeaa.Pr
end
section
namespace Go.Proofs.YtnkkgofpifhoeaaW.PrintWords
theorem Reps.one {α:Type} {R:α → List Value → Prop} {ps:List α} {cs:List Value} {p:α} {v:Value} (hp:R p [v]) (h:Reps R 1 ps cs):Reps R 1 (p :: ps) (v :: cs):=by
 refine ⟨by simp [h.1],fun j q hq => ?_⟩
 cases j with
 | zero =>
  simp only [List.getElem?_cons_zero,Option.some.injEq] at hq
  subst hq
  simpa using hp
 | succ j =>
  simp only [List.getElem?_cons_succ] at hq
  have h1:=h.2 j q hq
  simpa [Nat.mul_one] using h1
end Go.Proofs.YtnkkgofpifhoeaaW.PrintWords
end
section
namespace Go.Proofs.Ytnkkgofpifhoeaa.Pr
open Go.RowKit Go.Proofs.Ytnkkgofpifhoeaa.Base Go.Proofs.Ytnkkgofpifhoeaa.Steps Go.Proofs.Ytnkkgofpifhoeaa.Lk Go.Proofs.Ytnkkgofpifhoeaa.Win Go.Proofs.YtnkkgofpifhoeaaW.PrintWords Go.Proofs.YtnkkgofpifhoeaaW.PrintLast
theorem Inv.more {X:Pr} {N M:Nat} (h:Inv X N) (hM:N ≤ M):Inv X M:=⟨h.p.more hM,h.out⟩
theorem round_inv {X:Pr} {N:Nat} (h:Inv X N) (hN:N + 1026 < 4294967295):Inv (roundX X) (N + 1026):=by
 have h1:=do_inv h (by omega) ⟨4,0,0,[]⟩
 have h2:Inv (tkX X) (N + 1 + 1):=do_inv h1 (by omega) ⟨4,1,0,[]⟩
 have hw:=h2.p.way
 exact (delN_inv (tkX X).way.length h2 (by omega)).more (by omega)
set_option maxRecDepth 20000 in
theorem rounds_inv (j:Nat) {X:Pr} {N:Nat} (h:Inv X N) (hN:N + j * 1026 < 4294967295):Inv (rounds j X) (N + j * 1026):=by
 induction j with
 | zero => rw [Nat.zero_mul]; exact h
 | succ j ih =>
  rw [rounds_succ']
  have:=round_inv (ih (by omega)) (by omega)
  rwa [show N + j * 1026 + 1026 = N + (j + 1) * 1026 by omega] at this
theorem sends_take (X:Pr) (l:List (List Int)) (i:Nat) (hi:i < l.length):sendsX X (l.take (i + 1)) = doX (sendsX X (l.take i)) (sndA (l.getD i [])):=by
 unfold sendsX
 rw [List.take_add_one,List.foldl_append,List.getD_eq_getElem?_getD,List.getElem?_eq_getElem hi]
 rfl
theorem want_take (l:List (List Int)) (i:Nat) (hi:i < l.length):wantF (l.take (i + 1)) = wantF (l.take i) ++ (if okB (l.getD i []) then [l.getD i []] else []):=by
 unfold wantF
 rw [List.take_add_one,List.filter_append,List.getD_eq_getElem?_getD,List.getElem?_eq_getElem hi]
 show _ = _ ++ (if okB l[i] then [l[i]] else [])
 congr 1
 show List.filter _ [l[i]] = _
 by_cases hb:okB l[i]
 ·rw [if_pos hb,List.filter_cons_of_pos (by simpa using hb)]; rfl
 ·rw [if_neg hb,List.filter_cons_of_neg (by simpa using hb)]; rfl
theorem sends_inv {X:Pr} {N:Nat} (h:Inv X N) (l:List (List Int)) (hN:N + l.length < 4294967295) (i:Nat) (hi:i ≤ l.length):Inv (sendsX X (l.take i)) (N + i):=by
 induction i with
 | zero => exact h
 | succ i ih =>
  rw [sends_take X l i (by omega)]
  exact do_inv (ih (by omega)) (by omega) _
theorem drN_succ (n:Nat):∀ X:Pr,drN (n + 1) X = doX (drN n X) dpA:=by
 induction n with
 | zero => exact fun X => rfl
 | succ n ih => exact fun X => ih (doX X dpA)
theorem drN_inv (n:Nat) {X:Pr} {N:Nat} (h:Inv X N) (hN:N + n < 4294967295) (hn:n ≤ X.way.length):Inv (drN n X) (N + n) ∧ (drN n X).way.length = X.way.length - n:=by
 induction n with
 | zero => exact ⟨h,rfl⟩
 | succ n ih =>
  obtain ⟨a,b⟩:=ih (by omega) (by omega)
  rw [drN_succ]
  refine ⟨do_inv a (by omega) _,?_⟩
  rw [dp_do a (by omega)]
  show ((drN n X).way.eraseIdx 0).length = _
  rw [List.length_eraseIdx_of_lt (by omega),b]
  omega
set_option maxRecDepth 20000 in
theorem lost_inv (n:Nat) {X:Pr} {N:Nat} (h:Inv X N) (hN:N + n * 1025 < 4294967295):Inv (lostN n X) (N + n * 1025):=by
 induction n with
 | zero => rw [Nat.zero_mul]; exact h
 | succ n ih =>
  have h1:=do_inv (ih (by omega)) (by omega) ⟨4,0,0,[]⟩
  have hw:=h1.p.way
  exact (drN_inv _ h1 (by omega) (Nat.le_refl _)).1.more (by omega)
theorem arg_at' {w:World} {A:Option Addr} {xs:List (List Int)} (h:Lk.bytes.C w A xs.length xs) (i:Nat) (hi:i < xs.length):∃ ad A' c',A = some ad ∧ w.cell? (ad.add i) = some (.slice A' (xs.getD i []).length c') ∧ (Kd.int .u8).C w A' (xs.getD i []).length (xs.getD i []):=by
 obtain ⟨ad,c,hA,hl,hK,hc⟩:=Kd.C_get h [] (i:Int) (by omega) (by omega)
 rw [Int.toNat_natCast] at hK hc
 obtain ⟨A',c',hcs,_,hC⟩:=hK
 subst hcs
 refine ⟨ad,A',c',hA,?_,hC⟩
 have:=hc 0 _ rfl
 rwa [show Kd.sz Lk.bytes = 1 from rfl,Nat.mul_one,Nat.add_zero] at this
theorem str_at {w:World} {B:Nat} {V:Nat → Prop} {A:Option Addr} {n c:Nat} {xs:List ByteArray} (h:strs.R 9 w B V (.slice A n c) xs) (i:Nat) (hi:i < n):∃ ad,A = some ad ∧ w.cell? (ad.add i) = some (.string (xs.getD i ⟨#[]⟩)):=by
 obtain ⟨hn,_,hC⟩:=Kd.R_reads' h
 obtain ⟨ad,cs,hA,hl,hK,hc⟩:=Kd.C_get hC ⟨#[]⟩ (i:Int) (by omega) (by omega)
 rw [Int.toNat_natCast] at hK hc
 have hcs:cs = [.string (xs.getD i ⟨#[]⟩)]:=hK
 subst hcs
 refine ⟨ad,hA,?_⟩
 have:=hc 0 _ rfl
 rwa [show Kd.sz strs = 1 from rfl,Nat.mul_one,Nat.add_zero] at this
theorem log1_pp {w0 wr:World} {gp N:Nat} {X:Pr} (h:PP w0 gp X wr) (hI:Inv X N) (hN:N ≤ 900000):Calls Try.prog 38 #[.pointer (some ⟨gp,0,none⟩),.int .i64 1] wr fun e w' => ∃ v,e = .returned v ∧ ent.R 67 w' w0.heap.size (fun k => wr.heap.size ≤ k) v (X.sd 1).log ∧ Below wr.heap.size wr w':=log_pp h hI hN 1 (by decide)
theorem info9:(Try.prog.info? 9).map (fun i => (i.zero,i.size,i.bytes)) = some (some (.string ⟨#[]⟩),1,16):=by kernel_rfl
structure PaF (sc:List Act) (bs:List (List Int)) (n:Nat) (X:Pr):Prop where
 inv:Inv X 66066
 up:∀ i,i < bs.length → ((sendsX X (bs.take i)).en 0).phase = 2
 room:∀ i,i < bs.length → qN 0 (sendsX X (bs.take i)) < 64
 got:∃ g,((rounds 64 (lostN n (sendsX X bs))).sd 1).log = (X.sd 1).log ++ g ∧ g.map (·.body) = wantF bs ∧ ∀ x ∈ g,x.kind = 4
theorem pa_plain {sc:List Act} (hl:sc.length ≤ 400) (bs:List (List Int)) (hbs:bs.length ≤ 60) (n:Nat) (hn:n ≤ 7):PaF sc bs n (rounds 64 (scX sc)):=by
 obtain ⟨hrk,hj,hR,hli,hq⟩:=settles hl 0 (by decide)
 obtain ⟨a,b,c,d⟩:=sc_rk hl
 obtain ⟨M,hM,hr⟩:=(rj_rounds 64 (N:=402) ⟨sc.length + 2,by omega,a⟩ c (by omega)).1
 obtain ⟨x,y,z⟩:=all_plain hr (by omega) hli (hj 64 (by decide) (by decide)) hR (hq 0 (by decide)) bs hbs n hn
 exact ⟨hr.inv.more (by omega),y,z,x⟩
end Go.Proofs.Ytnkkgofpifhoeaa.Pr
end
section
namespace Go.Proofs.Ytnkkgofpifhoeaa.Pr
open Go.RowKit Go.Proofs.Ytnkkgofpifhoeaa.Base Go.Proofs.Ytnkkgofpifhoeaa.Steps Go.Proofs.Ytnkkgofpifhoeaa.Lk Go.Proofs.Ytnkkgofpifhoeaa.Win Go.Proofs.YtnkkgofpifhoeaaW.PrintWords Go.Proofs.YtnkkgofpifhoeaaW.PrintLast
set_option maxRecDepth 100000 in
set_option maxHeartbeats 4000000 in
theorem pa_walk (w:World) (A:Option Addr) (n c:Nat) (sc:List Act) (hC:act.C w A n sc) (A1:Option Addr) (n1 c1:Nat) (bs:List (List Int)) (hn1:bs.length = n1) (hC1:Lk.bytes.C w A1 bs.length bs) (ls:Nat) (hls:ls < 256) :
  Calls Try.prog 9 #[.slice A n c,.slice A1 n1 c1,.int .u8 ls] w fun e w' => e = .returned (.bool true) ∧ Below w.heap.size w w':=by
 have H:=Lib.hid hC
 have HB:=Lib.hid hC1
 have HN1:=Lib.hid hn1
 have HLS:=Lib.hid hls
 clear hC hC1 hn1 hls
 by_cases h60:n1 ≤ 60
 rotate_left
 ·have hd60:decide ((n1:Int) > 60) = true:=by simp; omega
  have hp60:(n1:Int) > 60:=by omega
  go_enter Try.func9,Try.ntmps9
  go_wp2_with (first | (go_at_call 35; (have hc:=alive12 w); (with_reducible refine hc.mono ?_); clear hc; rintro e w1 ⟨rfl,hb1⟩; (have HB1:=Lib.hid hb1); clear hb1))
  have hf1:=fits_w w1 A n c sc (act_C_below H.out HB1.out)
  have HF:=Lib.hid hf1
  clear hf1
  go_wp2_with (go_at_call 36; (have hc:=HF.out); (with_reducible refine hc.mono ?_); clear hc; rintro e w9 ⟨⟨bf,rfl,hbf⟩,rfl⟩; (have HBF:=Lib.hid hbf); (clear hbf); (cases bf))
  any_goals (go_ret; exact ⟨rfl,HB1.out⟩)
 have hd60:decide ((n1:Int) > 60) = false:=by simp; omega
 have hp60:¬ (n1:Int) > 60:=by omega
 have H60:=Lib.hid h60
 go_enter Try.func9,Try.ntmps9
 go_wp2_with (first | (go_at_call 35; (have hc:=alive12 w); (with_reducible refine hc.mono ?_); clear hc; rintro e w1 ⟨rfl,hb1⟩; (have HB1:=Lib.hid hb1); clear hb1))
 have hf1:=fits_w w1 A n c sc (act_C_below H.out HB1.out)
 have HF:=Lib.hid hf1
 clear hf1
 go_wp2_with (go_at_call 36; (have hc:=HF.out); (with_reducible refine hc.mono ?_); clear hc; rintro e w9 ⟨⟨bf,rfl,hbf⟩,rfl⟩; (have HBF:=Lib.hid hbf); (clear hbf); (cases bf))
 any_goals (go_ret; exact ⟨rfl,HB1.out⟩)
 have hfit:=HBF.out (by first | rfl | trivial)
 have hrun:=run_w w w1 HB1.out A n c sc H.out hfit
 have HRUN:=Lib.hid hrun
 have HLN:=Lib.hid hfit.1
 clear hrun hfit HBF hd60 hp60 h60
 go_wp2_with (go_at_call 37; (have hc:=HRUN.out); (with_reducible refine hc.mono ?_); clear hc; rintro e w2 ⟨gp,rfl,hP,hgp⟩; (have HP0:=Lib.hid hP.ps); clear hP hgp)
 have HRI:=Lib.hid (opS_ri HLN.out)
 have HINV:=Lib.hid (sc_inv HLN.out)
 have HPL:=Lib.hid (pa_plain HLN.out bs (by rw [HN1.out]; exact H60.out) (ls % 8) (by omega))
 have HSC:=Lib.hid (opS_two sc)
 generalize runX newX sc = X0 at *
 generalize scX sc = X at *
 go_loopg [8] 2 (fun m v wr => ∃ s:Nat,m = 2 - s ∧ s ≤ 2 ∧ v = .int .i64 (s:Int) ∧ PS w gp (fun _ => False) (.slice none 0 0) [] (opS s X0) wr)
 case atStart => exact ⟨0,rfl,by decide,rfl,HP0.out⟩
 case round =>
  obtain ⟨wo,rfl⟩:∃ wo:World,wo = wr:=⟨_,rfl⟩
  obtain ⟨s,hm,hsn,rfl,hP⟩:=hrel
  have HM:=Lib.hid hm
  have HS:=Lib.hid hsn
  have HP:=Lib.hid hP
  clear hm hsn hP
  by_cases hlt:s < 2
  ·have hd:decide ((s:Int) < 2) = true:=by simp; omega
   have HLT:=Lib.hid hlt
   have HPH:=Lib.hid (phase_pp HP.out.pp s hlt)
   have hri:=HRI.out s (by omega)
   have HDO:=Lib.hid (act0_ps HP.out hri.inv (by have:=HLN.out; omega) 1 s 0 (by decide))
   have hex:∃ ph:Int,((opS s X0).sd s).end_.phase = ph:=⟨_,rfl⟩
   obtain ⟨ph,hph⟩:=hex
   by_cases h0:ph = 0
   ·have hd0:(ph == 0) = true:=by simp [h0]
    have HE:=Lib.hid (show doX (opS s X0) ⟨1,(s:Int),0,[]⟩ = opS (s + 1) X0 from by
     show _ = opX (opS s X0) s
     unfold opX Pr.en
     rw [if_pos (by rw [hph]; exact h0)])
    rw [hph] at HPH
    clear hph h0 hri
    go_wp2_with (first | (go_at_call 40; (have hc:=HPH.out); (with_reducible refine hc.mono ?_); clear hc; rintro e w9 ⟨rfl,rfl⟩) | (go_at_call 41; (have hc:=HDO.out); (with_reducible refine hc.mono ?_); clear hc; rintro e w3 ⟨⟨E3,rfl⟩,hP3⟩; (rw [HE.out] at hP3); (have HP3:=Lib.hid hP3); clear hP3))
    go_roundg (2 - (s + 1))
    case measure => have:=HM.out; have:=HLT.out; omega
    case rel => exact ⟨s + 1,rfl,by have:=HLT.out; omega,by first | rfl | simp,HP3.out⟩
   ·have hd0:(ph == 0) = false:=by simp [h0]
    have HE:=Lib.hid (show opS s X0 = opS (s + 1) X0 from by
     show _ = opX (opS s X0) s
     unfold opX Pr.en
     rw [if_neg (by rw [hph]; exact h0)])
    rw [hph] at HPH
    clear hph h0 hri
    go_wp2_with (first | (go_at_call 40; (have hc:=HPH.out); (with_reducible refine hc.mono ?_); clear hc; rintro e w9 ⟨rfl,rfl⟩))
    go_roundg (2 - (s + 1))
    case measure => have:=HM.out; have:=HLT.out; omega
    case rel => exact ⟨s + 1,rfl,by have:=HLT.out; omega,by first | rfl | simp,by rw [← HE.out]; exact HP.out⟩
  ·have hd:decide ((s:Int) < 2) = false:=by simp; omega
   have hs2:s = 2:=by have:=HS.out; omega
   subst hs2
   have hp:=HP.out
   rw [HSC.out] at hp
   have HPX:=Lib.hid hp
   clear hp
   go_wp2_with fail
   go_loopg [9] 64 (fun m v wr => ∃ i:Nat,m = 64 - i ∧ i ≤ 64 ∧ v = .int .i64 (i:Int) ∧ PS w gp (fun _ => False) (.slice none 0 0) [] (rounds i X) wr)
   case atStart => exact ⟨0,rfl,by decide,rfl,HPX.out⟩
   case round =>
    obtain ⟨wo2,rfl⟩:∃ wo:World,wo = wr:=⟨_,rfl⟩
    obtain ⟨i,hm,hi2,rfl,hP⟩:=hrel
    have HMI:=Lib.hid hm
    have HI2:=Lib.hid hi2
    have HPI:=Lib.hid hP
    clear hm hi2 hP
    by_cases hli:i < 64
    ·have hd9:decide ((i:Int) < 64) = true:=by simp; omega
     have HRD:=Lib.hid (round_ps HPI.out (HINV.out i (by omega)) (by omega))
     have HLI:=Lib.hid hli
     have HE:=Lib.hid (rounds_succ' i X)
     go_wp2_with (first | (go_at_call 42; (have hc:=HRD.out); (with_reducible refine hc.mono ?_); clear hc; rintro e w3 ⟨rfl,hP3⟩; (rw [← HE.out] at hP3); (have HP3:=Lib.hid hP3); clear hP3))
     go_roundg (64 - (i + 1))
     case measure => have:=HMI.out; have:=HLI.out; omega
     case rel => exact ⟨i + 1,rfl,by have:=HLI.out; omega,by first | rfl | simp,HP3.out⟩
    ·have hd9:decide ((i:Int) < 64) = false:=by simp; omega
     have hie:i = 64:=by have:=HI2.out; omega
     have hp:=HPI.out
     rw [hie] at hp
     have HPP:=Lib.hid hp
     clear hp hie
     have HLG:=Lib.hid (log1_pp HPP.out.pp HPL.out.inv (by decide))
     generalize rounds 64 X = Y at *
     go_wp2_with (go_at_call 38; (have hc:=HLG.out); (with_reducible refine hc.mono ?_); clear hc; rintro e w3 ⟨v3,rfl,hR,hb3⟩; (obtain ⟨A3,c3,hv⟩:=Kd.R_slice hR); (subst hv); (have HP3:=Lib.hid (HPP.out.sub hb3)); (clear hR hb3))
     have hex:∃ k:Nat,(Y.sd 1).log.length = k:=⟨_,rfl⟩
     obtain ⟨nw,hlw⟩:=hex
     have HLW:=Lib.hid hlw
     rw [hlw]
     clear hlw
     go_loopg [11,12] n1 (fun m x v wr => ∃ (i:Nat) (V:Nat → Prop) (wv:Value),m = n1 - i ∧ i ≤ n1 ∧ wv = x ∧ v = .int .i64 (i:Int) ∧ PS w gp V wv ((wantF (bs.take i)).map Go.strOfNums) (sendsX Y (bs.take i)) wr)
     case atStart => exact ⟨0,fun _ => False,_,rfl,Nat.zero_le _,rfl,rfl,HP3.out⟩
     case round =>
      obtain ⟨wo3,rfl⟩:∃ wo:World,wo = wr:=⟨_,rfl⟩
      obtain ⟨i,V,wv,hm,hin,hwv,rfl,hP⟩:=hrel
      subst hwv
      have HM3:=Lib.hid hm
      have HI3:=Lib.hid hin
      have HPS:=Lib.hid hP
      clear hm hin hP
      have h60:=H60.out
      by_cases hlt:i < n1
      ·have hd:decide ((i:Int) < (n1:Int)) = true:=by simp; omega
       obtain ⟨ad,Ai,ci,hA1,hcell,hCi⟩:=arg_at' HB.out i (by have:=HN1.out; omega)
       subst hA1
       have HBW:=Lib.hid HPS.out.below
       have HCELL:=Lib.hid hcell
       have HCI:=Lib.hid hCi
       have hcr:wo3.cell? (ad.add i) = some (.slice Ai (bs.getD i []).length ci):=cell_kept hcell (Kept.of_below HBW.out (fun _ => False)) (fun h => h)
       have hbi:=HN1.out
       have HSI:=Lib.hid (sends_inv HPL.out.inv bs (by omega) i (by omega))
       have HSN:=Lib.hid (snd_ps HPS.out HSI.out (by omega) (HPL.out.up i (by omega)) (HPL.out.room i (by omega)) (bs.getD i []) _ rfl Ai ci hCi)
       have HST:=Lib.hid (sends_take Y bs i (by omega))
       have HWT:=Lib.hid (want_take bs i (by omega))
       have HLT3:=Lib.hid hlt
       clear hCi hcell hbi hlt
       generalize hbd:bs.getD i [] = bd at *
       clear hbd
       by_cases hok:okB bd
       ·rw [if_pos hok] at HSN HWT
        have hok2:=hok.2
        have HOK:=Lib.hid hok
        clear hok
        generalize hbl:bd.length = nb at *
        have HNB:=Lib.hid hbl
        clear hbl
        go_wp2_with (first | (go_at_call 41; (have hc:=HSN.out); (with_reducible refine hc.mono ?_); clear hc; rintro e w4 ⟨rfl,hP4⟩; (rw [← HST.out] at hP4); (have HP4:=Lib.hid hP4); (have hcr4:w4.cell? (ad.add i) = some (.slice Ai nb ci):=cell_kept HCELL.out (Kept.of_below HP4.out.below (fun _ => False)) (fun h => h)); clear hP4) | ((with_reducible refine gate_dst (N:=69) rfl ?_); (have hcv:=Kd.C_string (P:=Try.prog) (dst:=9) (c:=ci) Try.underlying22 Try.underlying5 Try.underlying9 (Kd.C_below HCI.out HP4.out.below)); (refine value_F (fun vv ww => Value.string (Go.strOfNums bd) = vv ∧ w4 = ww) rfl ⟨_,_,(by first | (go_simp; done) | (go_simp; rfl)),rfl,rfl⟩ (fun vv ww hvv => ?_)); (obtain ⟨hv9,hw9⟩:=hvv); (subst hv9); (subst hw9); (clear hcv); (refine Kd.R_lit strs (w0:=w) w.heap.size 9 ?hg (N:=70) ?hd (xs:=([Go.strOfNums bd]:List ByteArray)) (inner:=[.string (Go.strOfNums bd)]) (ok:=fun k => w4.heap.size ≤ k) (okp:=fun _ => False) ?hr ?hp (fun _ hk => False.elim hk) (Nat.le_refl _) HP4.out.below HP4.out.below.size (by simp) ?_); ((case hd => rfl)); ((case hg => rfl)); ((case hr => first | (go_simp; done) | (go_simp; rfl))); ((case hp => exact (Reps.one (show Kd.M strs _ _ _ (Go.strOfNums bd) [.string (Go.strOfNums bd)] from rfl) (Reps.none _ _)))); (intro vl w5 hR0 hb hg5 _); (obtain ⟨A5,c5,hv5,_,hC5⟩:=Kd.R_reads hR0); (subst hv5); (have HC5:=Lib.hid hC5); (have HP5:=Lib.hid (HP4.out.sub ⟨hg5.os,hg5.tape,hg5.output,hg5.size,fun k hk => hg5.block k hk (by simp)⟩)); (clear hR0 hb hg5 hC5); (refine Kd.R_append_row (h1:=fun _ => rfl) Value.string ⟨#[]⟩ (w0:=w) w.heap.size rfl (.tmp 64) (.tmp 70) 74 9 (.string ⟨#[]⟩) 16 rfl Try.underlying74 info9 rfl (by decide) wv ((wantF (bs.take i)).map Go.strOfNums) [Go.strOfNums bd] A5 _ c5 (fun k => V k ∨ w5.heap.size ≤ k) rfl rfl (fun k hk => .inr hk) (Kd.R_mono HP5.out.row (fun k hk => .inl hk)) HC5.out HP5.out.below HP5.out.below.size (by have h1:(wantF (bs.take i)).length ≤ i:=Nat.le_trans (List.length_filter_le _ _) (by rw [List.length_take]; omega); simp; omega) ?_); (intro v6 w6 hR6 hB6 hg6 _); (have HP6:=Lib.hid (HP5.out.app hR6 hB6 hg6)); (clear hR6 hB6 hg6)))
        go_roundg (n1 - (i + 1))
        case measure => have:=HM3.out; have:=HLT3.out; omega
        case rel => exact ⟨i + 1,_,_,rfl,by have:=HLT3.out; omega,rfl,by first | rfl | simp,by rw [HWT.out,List.map_append]; exact HP6.out⟩
       ·rw [if_neg hok] at HSN HWT
        clear hok
        go_wp2_with (first | (go_at_call 41; (have hc:=HSN.out); (with_reducible refine hc.mono ?_); clear hc; rintro e w4 ⟨rfl,hP4⟩; (rw [← HST.out] at hP4); (have HP4:=Lib.hid hP4); clear hP4))
        go_roundg (n1 - (i + 1))
        case measure => have:=HM3.out; have:=HLT3.out; omega
        case rel => exact ⟨i + 1,V,_,rfl,by have:=HLT3.out; omega,rfl,by first | rfl | simp,by rw [HWT.out,List.append_nil]; exact HP4.out⟩
      ·have hd:decide ((i:Int) < (n1:Int)) = false:=by simp; omega
       have hie:i = n1:=by have:=HI3.out; omega
       have hp:=HPS.out
       rw [hie,← HN1.out,List.take_of_length_le (Nat.le_refl _)] at hp
       have HPY:=Lib.hid hp
       clear hp hie
       go_wp2_with fail
       have HSI:=Lib.hid (show Inv (sendsX Y bs) 66126 from by
        have h1:=sends_inv HPL.out.inv bs (by have:=HN1.out; omega) bs.length (Nat.le_refl _)
        rw [List.take_length] at h1
        exact h1.more (by have:=HN1.out; omega))
       go_loopg [13] (ls % 8) (fun m v wr => ∃ (j:Nat),m = ls % 8 - j ∧ j ≤ ls % 8 ∧ v = .int .i64 (j:Int) ∧ PS w gp V wv ((wantF bs).map Go.strOfNums) (lostN j (sendsX Y bs)) wr)
       case atStart => exact ⟨0,rfl,Nat.zero_le _,rfl,HPY.out⟩
       case round =>
        obtain ⟨wo4,rfl⟩:∃ wo:World,wo = wr:=⟨_,rfl⟩
        obtain ⟨j,hm,hj,rfl,hP⟩:=hrel
        have HM4:=Lib.hid hm
        have HJ4:=Lib.hid hj
        have HP4:=Lib.hid hP
        have HTI:=Lib.hid (lost_inv j HSI.out (by omega))
        clear hm hj hP
        have h256:=HLS.out
        by_cases hlj:(j:Int) < (ls:Int) % 8
        ·have hd:decide ((j:Int) < (ls:Int) % 8) = true:=by simp [hlj]
         have HLJ:=Lib.hid hlj
         have HDO:=Lib.hid (act0_ps HP4.out HTI.out (by have:=HJ4.out; omega) 4 0 0 (by decide))
         have HZI:=Lib.hid (do_inv HTI.out (by have:=HJ4.out; omega) ⟨4,0,0,[]⟩)
         have HE:=Lib.hid (show drN (doX (lostN j (sendsX Y bs)) ⟨4,0,0,[]⟩).way.length (doX (lostN j (sendsX Y bs)) ⟨4,0,0,[]⟩) = lostN (j + 1) (sendsX Y bs) from rfl)
         have HJ7:=Lib.hid (show j ≤ 7 from by have:=HJ4.out; omega)
         generalize doX (lostN j (sendsX Y bs)) ⟨4,0,0,[]⟩ = Z at *
         have HZW:=Lib.hid HZI.out.p.way
         have hex:∃ k:Nat,Z.way.length = k:=⟨_,rfl⟩
         obtain ⟨nz,hnz⟩:=hex
         rw [hnz] at HE HZW
         have HNZ:=Lib.hid hnz
         clear hnz hlj
         go_wp2_with (go_at_call 41; (have hc:=HDO.out); (with_reducible refine hc.mono ?_); clear hc; rintro e w5 ⟨⟨E5,rfl⟩,hP5⟩; (have HP5:=Lib.hid hP5); clear hP5)
         go_loopg [] nz (fun m wr => ∃ (k:Nat),m = nz - k ∧ k ≤ nz ∧ PS w gp V wv ((wantF bs).map Go.strOfNums) (drN k Z) wr)
         case atStart => exact ⟨0,rfl,Nat.zero_le _,HP5.out⟩
         case round =>
          obtain ⟨wo5,rfl⟩:∃ wo:World,wo = wr:=⟨_,rfl⟩
          obtain ⟨k,hm,hk,hP⟩:=hrel
          have HM5:=Lib.hid hm
          have HK5:=Lib.hid hk
          have HP6:=Lib.hid hP
          clear hm hP
          have hzw:=HZW.out
          have hj7:=HJ7.out
          have hdr:=drN_inv k HZI.out (by omega) (by rw [HNZ.out]; exact hk)
          rw [HNZ.out] at hdr
          have HDR:=Lib.hid hdr.1
          have HFL:=Lib.hid (flight_pp HP6.out.pp)
          rw [hdr.2] at HFL
          have HDP:=Lib.hid (act0_ps HP6.out hdr.1 (by omega) 7 0 0 (by decide))
          have HES:=Lib.hid (drN_succ k Z)
          clear hdr
          by_cases hkz:k < nz
          ·obtain ⟨fl,hfl⟩:∃ fl,nz - k = fl:=⟨_,rfl⟩
           have h05:0 < fl:=by omega
           have hd5:decide ((fl:Int) > 0) = true:=by simp; omega
           have HKZ:=Lib.hid hkz
           rw [hfl] at HFL
           clear hk hzw hj7 hkz hfl
           go_wp2_with (first | (go_at_call 43; (have hc:=HFL.out); (with_reducible refine hc.mono ?_); clear hc; rintro e w9 ⟨rfl,rfl⟩) | (go_at_call 41; (have hc:=HDP.out); (with_reducible refine hc.mono ?_); clear hc; rintro e w7 ⟨⟨E7,rfl⟩,hP7⟩; (have HP7:=Lib.hid (show PS w gp V wv ((wantF bs).map Go.strOfNums) (drN (k + 1) Z) w7 from HES.out ▸ hP7)); clear hP7))
           go_roundg (nz - (k + 1))
           case measure => have:=HM5.out; have:=HKZ.out; omega
           case rel => exact ⟨k + 1,rfl,by have:=HKZ.out; omega,HP7.out⟩
          ·obtain ⟨fl,hfl⟩:∃ fl,nz - k = fl:=⟨_,rfl⟩
           have h05:¬ 0 < fl:=by omega
           have hd5:decide ((fl:Int) > 0) = false:=by simp; omega
           rw [hfl] at HFL
           have hkn:k = nz:=by omega
           have hp:=HP6.out
           rw [hkn,HE.out] at hp
           have HPN:=Lib.hid hp
           clear hp hkn hk hzw hkz hfl
           go_wp2_with (first | (go_at_call 43; (have hc:=HFL.out); (with_reducible refine hc.mono ?_); clear hc; rintro e w9 ⟨rfl,rfl⟩))
           go_roundg (ls % 8 - (j + 1))
           case measure => have:=HM4.out; have:=HLJ.out; omega
           case rel => exact ⟨j + 1,rfl,by have:=HLJ.out; omega,by first | rfl | simp,HPN.out⟩
        ·have hd:decide ((j:Int) < (ls:Int) % 8) = false:=by simp; omega
         have hje:j = ls % 8:=by have:=HJ4.out; omega
         have hp:=HP4.out
         rw [hje] at hp
         have HPN:=Lib.hid hp
         have HNI:=Lib.hid (show Inv (lostN (ls % 8) (sendsX Y bs)) 74000 from (lost_inv (ls % 8) HSI.out (by omega)).more (by omega))
         have hgot:=HPL.out.got
         have HGOT:=Lib.hid hgot
         clear hp hje hgot hlj
         generalize lostN (ls % 8) (sendsX Y bs) = Z at *
         go_wp2_with fail
         go_loopg [14] 64 (fun m v wr => ∃ k:Nat,m = 64 - k ∧ k ≤ 64 ∧ v = .int .i64 (k:Int) ∧ PS w gp V wv ((wantF bs).map Go.strOfNums) (rounds k Z) wr)
         case atStart => exact ⟨0,rfl,by decide,rfl,HPN.out⟩
         case round =>
          obtain ⟨wo6,rfl⟩:∃ wo:World,wo = wr:=⟨_,rfl⟩
          obtain ⟨k,hm,hk2,rfl,hP⟩:=hrel
          have HM6:=Lib.hid hm
          have HK6:=Lib.hid hk2
          have HP6:=Lib.hid hP
          have HRI6:=Lib.hid (rounds_inv k HNI.out (by omega))
          clear hm hk2 hP
          by_cases hlk:k < 64
          ·have hd9:decide ((k:Int) < 64) = true:=by simp; omega
           have HRD:=Lib.hid (round_ps HP6.out HRI6.out (by omega))
           have HLK:=Lib.hid hlk
           have HE:=Lib.hid (rounds_succ' k Z)
           go_wp2_with (first | (go_at_call 42; (have hc:=HRD.out); (with_reducible refine hc.mono ?_); clear hc; rintro e w7 ⟨rfl,hP7⟩; (rw [← HE.out] at hP7); (have HP7:=Lib.hid hP7); clear hP7))
           go_roundg (64 - (k + 1))
           case measure => have:=HM6.out; have:=HLK.out; omega
           case rel => exact ⟨k + 1,rfl,by have:=HLK.out; omega,by first | rfl | simp,HP7.out⟩
          ·have hd9:decide ((k:Int) < 64) = false:=by simp; omega
           have hke:k = 64:=by have:=HK6.out; omega
           have hp:=HP6.out
           have hri:=HRI6.out
           rw [hke] at hp hri
           obtain ⟨g,hg1,hg2,hg3⟩:=HGOT.out
           have HQ:=Lib.hid hp
           have HQL:=Lib.hid (log1_pp hp.pp hri (by omega))
           rw [hg1] at HQL
           have HG2:=Lib.hid hg2
           have HG3:=Lib.hid hg3
           clear hp hke hri hg1 hg2 hg3
           generalize rounds 64 Z = Q at *
           have HNW:=Lib.hid (show (Y.sd 1).log.length ≤ 66066 from (HPL.out.inv.p.side 1 (by decide)).len)
           generalize (Y.sd 1).log = l1 at *
           have HWL:=Lib.hid (show (wantF bs).length ≤ 60 from Nat.le_trans (List.length_filter_le _ _) (by rw [HN1.out]; exact H60.out))
           obtain ⟨Aw,cw,hwv⟩:=Kd.R_slice HQ.out.row
           obtain ⟨ng,hng⟩:∃ k:Nat,g.length = k:=⟨_,rfl⟩
           have hwl:(wantF bs).length = ng:=by rw [← HG2.out,List.length_map]; exact hng
           rw [List.length_map,hwl] at hwv
           subst hwv
           have HL2:=Lib.hid (show (l1 ++ g).length = nw + ng from by rw [List.length_append,HLW.out,hng])
           have hb1:nw ≤ 66066:=by rw [← HLW.out]; exact HNW.out
           have hb2:ng ≤ 60:=by rw [← hwl]; exact HWL.out
           have HNG:=Lib.hid hng
           have HWN:=Lib.hid hwl
           have hne:((((nw + ng:Nat):Int)) != (nw:Int) + (ng:Int)) = false:=by simp
           clear hng hwl
           go_wp2_with (go_at_call 38; (have hc:=HQL.out); (with_reducible refine hc.mono ?_); clear hc; rintro e w7 ⟨v7,rfl,hR,hb7⟩; (obtain ⟨A7,c7,hv⟩:=Kd.R_slice hR); (rw [HL2.out] at hv); (subst hv); (have HR7:=Lib.hid hR); (have HP7:=Lib.hid (HQ.out.sub hb7)); (clear hR hb7))
           go_loopg [16] ng (fun m v wr => ∃ k:Nat,m = ng - k ∧ k ≤ ng ∧ v = .int .i64 (k:Int) ∧ Below w7.heap.size w7 wr)
           case atStart => exact ⟨0,rfl,Nat.zero_le _,rfl,Below.refl _ _⟩
           case round =>
            obtain ⟨w8,rfl⟩:∃ wo:World,wo = wr:=⟨_,rfl⟩
            obtain ⟨k2,hm,hk2,rfl,hwr⟩:=hrel
            have HB8:=Lib.hid hwr
            clear hwr
            have HM8:=Lib.hid hm
            have HK8:=Lib.hid hk2
            clear hm hk2
            by_cases hlk:k2 < ng
            ·have hd9:decide ((k2:Int) < (ng:Int)) = true:=by simp; omega
             obtain ⟨gg,Ab,cb,hA7,-,hrg,hCb⟩:=ent_elem HR7.out (nw + k2) (by omega)
             obtain ⟨ad2,hAw,hst⟩:=str_at HP7.out.row k2 (by have:=hlk; omega)
             subst hA7
             subst hAw
             have hwn:=HWN.out
             have hge:(l1 ++ g).getD (nw + k2) nilE = g.getD k2 nilE:=by rw [List.getD_eq_getElem?_getD,List.getD_eq_getElem?_getD,List.getElem?_append_right (by rw [HLW.out]; omega),HLW.out,show nw + k2 - nw = k2 by omega]
             have hgl:k2 < g.length:=by rw [HNG.out]; exact hlk
             have hgk:(g.getD k2 nilE).kind = 4:=by
              rw [List.getD_eq_getElem?_getD,List.getElem?_eq_getElem hgl]
              exact HG3.out _ (List.getElem_mem hgl)
             have hgb:(wantF bs).getD k2 [] = (g.getD k2 nilE).body:=by
              rw [← HG2.out,List.getD_eq_getElem?_getD,List.getD_eq_getElem?_getD,List.getElem?_map,List.getElem?_eq_getElem hgl]; rfl
             have hsb:((wantF bs).map Go.strOfNums).getD k2 ⟨#[]⟩ = Go.strOfNums (g.getD k2 nilE).body:=by
              rw [← hgb,List.getD_eq_getElem?_getD,List.getD_eq_getElem?_getD,List.getElem?_map,List.getElem?_eq_getElem (by omega)]; rfl
             rw [hsb] at hst
             rw [hge] at hrg hCb
             generalize g.getD k2 nilE = x at *
             have hk0:w8.cell? ⟨gg,(nw + k2) * 6,none⟩ = some (.int .i64 4):=by rw [← hgk]; exact pw_cell_below HB8.out (hrg 0 _ rfl)
             have hk5:w8.cell? ⟨gg,(nw + k2) * 6 + 5,none⟩ = some (.slice Ab x.body.length cb):=pw_cell_below HB8.out (hrg 5 _ rfl)
             have hst8:=pw_cell_below HB8.out hst
             have hcv:=fun n:Nat => Kd.C_string (P:=Try.prog) (dst:=9) (c:=cb) Try.underlying22 Try.underlying5 Try.underlying9 (Kd.C_drewN (Kd.C_below hCb HB8.out) n)
             have HLK:=Lib.hid hlk
             clear hsb hgb hgk hge hgl hrg hCb hwn hst
             go_wp2_with fail
             go_quiet (fail)
             go_wp2_with fail
             go_roundg (ng - (k2 + 1))
             case measure => have:=HM8.out; have:=HLK.out; omega
             case rel => exact ⟨k2 + 1,rfl,by have:=HLK.out; omega,by first | rfl | simp,HB8.out.trans (pw_below_drewN (Below.refl _ _) _ |>.mono HB8.out.size)⟩
            ·have hd9:decide ((k2:Int) < (ng:Int)) = false:=by simp; omega
             go_wp2_with fail
             all_goals (go_ret; exact ⟨rfl,HP7.out.below.trans (HB8.out.mono HP7.out.below.size)⟩)
end Go.Proofs.Ytnkkgofpifhoeaa.Pr
end
section
namespace Go.Proofs.Ytnkkgofpifhoeaa.pairAll
open Go.ChangeShapes Go.WideShapes Go.ChangeAt Go.RowKit Go.Deep
open Go.ChangeMaps (open_string shut_string)
theorem own:ownKnob Try.prog.godebug = none:=by kernel_rfl
theorem laidOut:laidOutB Try.prog = true:=by kernel_rfl
def IsRows (w:World) (a:Option Addr) (len:Nat) (xs:List (List Int)):Prop:=xs.length = len ∧ Lk.bytes.C w a len xs
theorem rows_nil (w:World):IsRows w none 0 []:=⟨rfl,rfl,by decide,fun h => absurd h (by decide)⟩
theorem rows_some {w:World} {a:Addr} {len cap:Nat} {A:Nat → Option Addr} {L C:Nat → Nat} {Z:Nat → List Int} (hl:len ≤ cap) (hm:cap ≤ maxLen)
  (h:∀ r,r < cap → w.cell? (a.add r) = some (.slice (A r) (L r) (C r)) ∧ L r ≤ C r ∧ C r ≤ maxLen ∧ (Z r).length = C r ∧ (A r = none → C r = 0) ∧ ∀ a',A r = some a' → ∀ c,c < C r → w.cell? (a'.add c) = some (.int .u8 ((Z r).getD c 0))) :
  IsRows w (some a) len ((List.range len).map fun r => (Z r).take (L r)):=by
 have hmx:maxLen = 9223372036854775807:=rfl
 refine ⟨by simp,by simp,by omega,fun hp => ⟨a,rfl,fun j p hj => ?_⟩⟩
 have hjl:j < len:=by
  by_cases hjl:j < len
  ·exact hjl
  ·rw [List.getElem?_eq_none (by simp; omega)] at hj; cases hj
 rw [List.getElem?_map,List.getElem?_range hjl] at hj
 have hp:(Z j).take (L j) = p:=Option.some.inj hj
 subst hp
 obtain ⟨h1,h2,h3,h4,h5,h6⟩:=h j (by omega)
 have hlen:((Z j).take (L j)).length = L j:=by rw [List.length_take]; omega
 refine ⟨[.slice (A j) (L j) (C j)],rfl,⟨A j,C j,by rw [hlen],by rw [hlen]; exact h2,?_⟩,fun i u hu => ?_⟩
 ·rw [hlen]
  refine Go.Proofs.YtnkkgofpifhoeaaW.PrintWords.Kd.C_of_reads (d:=(0:Int)) (h1:=fun _ => rfl) ⟨hlen,by omega,fun hlp => ?_⟩
  cases hA:A j with
  | none => have:=h5 hA; omega
  | some a' =>
   refine ⟨a',rfl,fun c hc => ?_⟩
   rw [h6 a' hA c (by omega)]
   rw [List.getD_eq_getElem?_getD,List.getD_eq_getElem?_getD,List.getElem?_take_of_lt hc]
 ·have hi0:i = 0:=by
   by_cases hi:i = 0
   ·exact hi
   ·rw [List.getElem?_eq_none (by simp; omega)] at hu; cases hu
  subst hi0
  have hu':Value.slice (A j) (L j) (C j) = u:=Option.some.inj hu
  subst hu'
  have e:j * Go.Proofs.YtnkkgofpifhoeaaW.PrintWords.Kd.sz Lk.bytes + 0 = j:=by rw [show Go.Proofs.YtnkkgofpifhoeaaW.PrintWords.Kd.sz Lk.bytes = 1 from rfl]; omega
  rw [e]
  exact h1
set_option maxRecDepth 100000 in
theorem lifted (os:Os) (started:os.Started) (H:Type) (enc:TypeId × Value → H) :
  ReturnsInHanded {} Try.checked os 9 .any (Rows.pairAllSpec.pre6 enc Try.prog Try.f9 Rows.pairAllRow.domain false) (Rows.pairAllSpec.post enc Try.prog Try.f9 false true false false):=by
 refine returnsInHanded_of_change_sized (C:=Try.checked) own started (by kernel_rfl) Try.func9
  (ChangeSpec.witness6 (enc:=enc) (C:=Try.checked) false ⟨#[],#[.slice none 0 0,.slice none 0 0,.int .u8 0],[]⟩ 8 (by kernel_rfl) (by kernel_rfl) (by kernel_rfl) (by kernel_rfl)) ?_
 intro W base args ds gs before hval0 hW hcnd hsz0 _
 have hval:∀ (j:Nat) t v,Try.f9.params[j]? = some t → args[j]? = some v → Value.okWide Try.prog W .any base t v:=hval0
 have hW':=hW
 obtain ⟨p,q,hA0,hV,rfl,hfz,hnd⟩:=hW
 have hA:DataW.TrodAll enc Try.prog W 0 (fun _ => true) true Try.f9.params.toList args.toList ds p:=hA0
 rw [Try.params9] at hA hval
 obtain ⟨v0,vs0,d0,ds0,p0,q0,hargs,rfl,rfl,h0,r0⟩:=trodAll_cons hA
 obtain ⟨v1,vs1,d1,ds1,p1,q1,rfl,rfl,rfl,h1,r1⟩:=trodAll_cons r0
 obtain ⟨v2,vs2,d2,ds2,p2,q2,rfl,rfl,rfl,h2,r2⟩:=trodAll_cons r1
 obtain ⟨rfl,rfl,rfl⟩:=trodAll_nil r2
 obtain rfl:args = #[v0,v1,v2]:=by cases args; simp_all
 obtain ⟨rfl,rfl⟩:=trodVars_none hV
 obtain ⟨a0,len0,cap0,rfl⟩:=okWide_slice Try.underlying60 (hval 0 60 v0 rfl rfl)
 obtain ⟨a1,len1,cap1,rfl⟩:=okWide_slice Try.underlying45 (hval 1 45 v1 rfl rfl)
 have k0:=h0
 have k1:=h1
 have lt0:∀ x ∈ p0,x.block < W.heap.size:=by obtain ⟨m,hm⟩:=k0; exact DataW.trod_lt m _ _ _ hm
 have lt1:∀ x ∈ p1,x.block < W.heap.size:=by obtain ⟨m,hm⟩:=k1; exact DataW.trod_lt m _ _ _ hm
 obtain ⟨xs,hC0⟩:∃ xs,Pr.act.C W a0 len0 xs:=by
  obtain ⟨fuel,hf⟩:=h0
  exact Pr.acts_of_trod hf
 obtain ⟨ys,w1⟩:∃ ys,IsRows W a1 len1 ys:=by
  obtain ⟨fuel,hf⟩:=h1
  rcases open_int_rows Try.underlying45 Try.underlying22 Try.underlying5 (by kernel_rfl) (by kernel_rfl) hf with ⟨hcs,_⟩ | ⟨a,len,cap,A,L,C,Z,hcs,_,hl,hm,_,hrows⟩
  ·simp [Value.cells] at hcs
   obtain ⟨rfl,rfl,rfl⟩:=hcs
   exact ⟨[],rows_nil W⟩
  ·simp [Value.cells] at hcs
   obtain ⟨rfl,rfl,rfl⟩:=hcs
   exact ⟨_,rows_some hl hm (fun r hr => by
    obtain ⟨e1,e2,e3,e4,_,e6,e7⟩:=hrows r hr
    exact ⟨e1,e2,e3,e4,e6,fun a' ha => (e7 a' ha).2⟩)⟩
 obtain ⟨a2,rfl,rfl,rfl,w2⟩:=open_int Try.underlying5 (hval 2 5 v2 rfl rfl) h2
 obtain ⟨hl1,hC1⟩:=w1
 subst hl1
 have hr:0 ≤ a2 ∧ a2 < 256:=by
  have h:=w2
  unfold Lit.wf at h
  rw [Bool.and_eq_true,decide_eq_true_eq,decide_eq_true_eq] at h
  have e1:IntKind.u8.min = 0:=by decide
  have e2:IntKind.u8.max = 255:=by decide
  rw [e1,e2] at h
  omega
 obtain ⟨n2,rfl⟩:∃ n:Nat,a2 = (n:Int):=⟨a2.toNat,by omega⟩
 clear hA0 hval0 hsz0
 refine (Pr.pa_walk W a0 len0 cap0 xs hC0 a1 ys.length cap1 ys rfl hC1 n2 (by omega)).mono fun e W' ⟨he,bel⟩ => ?_
 subst he
 exact ⟨_,rfl,_,_,_,[],_,[],hW',trodAll_mk1 (shut_bool Try.underlying4 _),(trodAll_cons_mk (Below.trod laidOut (by kernel_rfl) (of_decide_eq_true (by kernel_rfl)) k0 bel lt0) (trodAll_cons_mk (Below.trod laidOut (by kernel_rfl) (of_decide_eq_true (by kernel_rfl)) k1 bel lt1) (trodAll_cons_mk (shut_int Try.underlying5 w2) trodAll_mk0))),rfl,bel.frame _,fun h => by cases h⟩
theorem over:Rows.pairAllRow.holds Try.pinned (OpenSpec.ofChange Rows.pairAllSpec) :=
 OpenClaim.holds_of_wide 9 Try.f9 rfl rfl rfl rfl rfl rfl rfl ⟨rfl,rfl,rfl,rfl,rfl⟩ rfl rfl rfl rfl rfl (by kernel_rfl) Try.func9 (by kernel_rfl)
  (of_decide_eq_true (by kernel_rfl)) (by unfold Func.isWrapper; first | (rw [if_pos (by decide +kernel)]; kernel_rfl) | (rw [if_neg (by decide +kernel)]; exact ⟨rfl,rfl⟩))
  (fun os started H enc _ => lifted os started H enc)
theorem proved:Rows.PairAllSaid:=over
end Go.Proofs.Ytnkkgofpifhoeaa.pairAll
namespace Go.Proofs.Ytnkkgofpifhoeaa
theorem pairAll_holds:Rows.PairAllSaid:=pairAll.proved
end Go.Proofs.Ytnkkgofpifhoeaa
end
