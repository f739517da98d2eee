/- What the laws of a pair are proved with: links and pairs in memory, what their methods do, what a pair keeps to (part 10). -/
import Derived.Test.YtnkkgofpifhoeaaPE09
set_option linter.unusedSimpArgs false
set_option linter.unusedVariables false
set_option maxRecDepth 100000
set_option maxHeartbeats 16000000
section
namespace Go.Proofs.Ytnkkgofpifhoeaa.Pr
open Go.Proofs.Ytnkkgofpifhoeaa.Lk
abbrev Key:=Int × Int × Int × Int
def keyE (e:Ei):Key:=(e.AB,e.mine,e.peer,e.yours)
def Cj (L:Lk):Key:=(L.own,L.token,L.AB,L.yours)
def rZ (K:Key):Key:=(K.2.2.1,K.2.2.2,K.1,K.2.1)
def Fe (c:Int) (l:List Ei) (K:Key):List (List Int):=(l.filter (fun e => decide (e.kind = c ∧ keyE e = K))).map (·.body)
theorem Gp (c:Int) (a b:List Ei) (K:Key):Fe c (a ++ b) K = Fe c a K ++ Fe c b K:=by simp [Fe]
theorem QA (c:Int) (e:Ei) (K:Key):Fe c [e] K = if e.kind = c ∧ keyE e = K then [e.body] else []:=by
 unfold Fe
 by_cases h:e.kind = c ∧ keyE e = K
 ·rw [if_pos h,List.filter_cons_of_pos (by simpa using h)]; rfl
 ·rw [if_neg h,List.filter_cons_of_neg (by simpa using h)]; rfl
theorem JB {c:Int} {l:List Ei} {e:Ei} {K:Key} (h:e.kind ≠ c):Fe c (l ++ [e]) K = Fe c l K:=by
 rw [Gp,QA,if_neg (fun x => h x.1),List.append_nil]
theorem QB {c:Int} {l:List Ei} {e:Ei} {K:Key} (h:e.kind = c) (hk:keyE e = K):Fe c (l ++ [e]) K = Fe c l K ++ [e.body]:=by
 rw [Gp,QA,if_pos ⟨h,hk⟩]
theorem jv {c:Int} {l:List Ei} {e:Ei} {K:Key} (hk:keyE e ≠ K):Fe c (l ++ [e]) K = Fe c l K:=by
 rw [Gp,QA,if_neg (fun x => hk x.2),List.append_nil]
theorem VW (c:Int) (l:List Ei) (K:Key):(Fe c l K).length ≤ l.length:=by
 unfold Fe; rw [List.length_map]; exact List.length_filter_le _ _
theorem bQ {c:Int} {l:List Ei} {K:Key} (h:∀ e ∈ l,e.kind = c → keyE e ≠ K):Fe c l K = []:=by
 unfold Fe
 rw [List.filter_eq_nil_iff.2,List.map_nil]
 intro e he
 simp only [decide_eq_true_eq]
 exact fun hx => h e he hx.1 hx.2
def sn (m:Nat):Int:=IntKind.u32.wrap (4294967293 + (m:Int))
theorem bT (m:Nat):IntKind.u32.wrap (sn m + 1) = sn (m + 1):=by unfold sn; simp only [FZ]; omega
theorem jw (m k:Nat):IntKind.u32.wrap (sn m + (k:Int)) = sn (m + k):=by unfold sn; simp only [FZ]; omega
theorem bU (m k:Nat):IntKind.u32.wrap (sn m + IntKind.u32.wrap (k:Int)) = sn (m + k):=by unfold sn; simp only [FZ]; omega
theorem jy {m n:Nat} (hm:m < 4294967296) (hn:n < 4294967296) (h:sn m = sn n):m = n:=by unfold sn at h; simp only [FZ] at h; omega
theorem wR:sn 0 = 4294967293:=by decide
def XE (st:Option (Bool × Key)) (e:Ei):Option (Bool × Key) :=
 match st with
 | none => none
 | some (up,last) =>
  if e.kind = 5 then (if e.AB = last.1 + 1 then some (false,(e.AB,0,0,0)) else none)
  else if e.kind = 1 then (if up = true ∨ e.AB ≠ last.1 ∨ e.mine ≤ last.2.1 ∨ e.peer = 0 ∨ e.yours = 0 ∨ e.peer < last.2.2.1 ∨ (e.peer = last.2.2.1 ∧ e.yours < last.2.2.2) then none else some (true,keyE e))
  else if up = false ∨ keyE e ≠ last then none else some (decide (e.kind ≠ 2),last)
def chk (l:List Ei):Option (Bool × Key):=l.foldl XE (some (false,(1,0,0,0)))
theorem KZ (l:List Ei) (e:Ei):chk (l ++ [e]) = XE (chk l) e:=by unfold chk; rw [List.foldl_append]; rfl
structure bV (d:Sd) (up:Bool) (K:Key):Prop where
 eq:chk d.log = some (up,K)
 up:up = decide (d.end_.phase = 2)
 AB:K.1 = d.end_.own
 O8:0 ≤ K.2.1
 mine:K.2.1 ≤ d.end_.token
 less:d.end_.phase = 1 → K.2.1 < d.end_.token
 peer:K.2.2.1 < d.end_.AB ∨ K.2.2.1 = d.end_.AB ∧ K.2.2.2 ≤ d.end_.yours
 key:d.end_.phase = 2 → K = Cj d.end_
structure DD (d:Sd) (N:Nat):Prop where
 fine:d.end_.Fine
 AB:d.AB = d.end_.own
 last:d.end_.phase = 2 → (d.last.AB,d.last.mine,d.last.peer,d.last.yours) = Cj d.end_
 len:d.log.length ≤ N
 told:∃ up K,bV d up K
 fresh:∀ e ∈ d.log,e.kind = 3 ∨ e.kind = 4 → e.AB < d.end_.own ∨ e.AB = d.end_.own ∧ e.mine ≤ d.end_.token ∧ (d.end_.phase = 1 → e.mine < d.end_.token)
 init:d.end_.phase = 1 → d.end_.expected = sn 0 ∧ d.end_.base = sn 0
 got:d.end_.phase = 2 → d.end_.expected = sn (Fe 4 d.log (Cj d.end_)).length
 sent:d.end_.phase = 2 → ∃ m,m ≤ (Fe 3 d.log (Cj d.end_)).length ∧ d.end_.queue = (Fe 3 d.log (Cj d.end_)).drop m ∧ d.end_.base = sn m
 short:∀ e ∈ d.log,e.body.length ≤ 1000
theorem Eo {L L':Lk} (h:Same L L'):Cj L' = Cj L:=by unfold Cj; rw [h.own,h.token,h.AB,h.yours]
theorem bV.same {d d':Sd} {up:Bool} {K:Key} (h:bV d up K) (hl:d'.log = d.log) (hs:Same d.end_ d'.end_):bV d' up K :=
 ⟨by rw [hl]; exact h.eq,by rw [hs.phase]; exact h.up,by rw [hs.own]; exact h.AB,h.O8,by rw [hs.token]; exact h.mine,by rw [hs.phase,hs.token]; exact h.less,by rw [hs.AB,hs.yours]; exact h.peer,by rw [hs.phase,Eo hs]; exact h.key⟩
theorem DD.same {d d':Sd} {N:Nat} (h:DD d N) (hb:d'.AB = d.AB) (hl:d'.log = d.log) (hla:d'.last = d.last) (hs:Same d.end_ d'.end_) (hf:d'.end_.Fine):DD d' N:=by
 obtain ⟨up,K,hc⟩:=h.told
 refine ⟨hf,by rw [hb,hs.own]; exact h.AB,fun h2 => ?_,by rw [hl]; exact h.len,⟨up,K,hc.same hl hs⟩,fun e he => ?_,fun h1 => ?_,fun h2 => ?_,fun h2 => ?_,by rw [hl]; exact h.short⟩
 ·rw [hla,Eo hs]; exact h.last (by rw [← hs.phase]; exact h2)
 ·rw [hs.own,hs.token,hs.phase]; exact h.fresh e (hl ▸ he)
 ·rw [hs.expected,hs.base]; exact h.init (by rw [← hs.phase]; exact h1)
 ·rw [hs.expected,hl,Eo hs]; exact h.got (by rw [← hs.phase]; exact h2)
 ·rw [hs.queue,hs.base,hl,Eo hs]; exact h.sent (by rw [← hs.phase]; exact h2)
theorem DD.more {d:Sd} {N M:Nat} (h:DD d N) (hm:N ≤ M):DD d M:=⟨h.fine,h.AB,h.last,Nat.le_trans h.len hm,h.told,h.fresh,h.init,h.got,h.sent,h.short⟩
theorem Yk {d:Sd} (c:Int) (b:List Int):keyE (Ci d c b) = (d.last.AB,d.last.mine,d.last.peer,d.last.yours):=rfl
theorem IB {d:Sd} {N:Nat} (h:DD d N) (h2:d.end_.phase = 2) (c:Int) (b:List Int):keyE (Ci d c b) = Cj d.end_:=(Yk c b).trans (h.last h2)
theorem Gq {l:List Ei} {e:Ei} (h:∀ x ∈ l,x.body.length ≤ 1000) (he:e.body.length ≤ 1000):∀ x ∈ l ++ [e],x.body.length ≤ 1000:=fun x hx => (List.mem_append.1 hx).elim (h x) (fun y => by rw [List.mem_singleton.1 y]; exact he)
theorem JC {l:List Ei} {e:Ei} {N:Nat} (h:l.length ≤ N):(l ++ [e]).length ≤ N + 1:=by rw [List.length_append]; simp only [List.length_singleton]; omega
theorem bV.tell {d:Sd} {N:Nat} (hs:DD d N) {up:Bool} {K:Key} (h:bV d up K) (h2:d.end_.phase = 2) {c:Int} (hc:c ≠ 1 ∧ c ≠ 5 ∧ c ≠ 2) (b:List Int):chk (d.log ++ [Ci d c b]) = some (true,K):=by
 have hk:=(IB hs h2 c b).trans (h.key h2).symm
 have hu:up = true:=by rw [h.up]; exact decide_eq_true h2
 rw [KZ,h.eq]
 unfold XE
 simp only []
 rw [if_neg (show ¬ (Ci d c b).kind = 5 from hc.2.1),if_neg (show ¬ (Ci d c b).kind = 1 from hc.1),if_neg (by rw [hu]; rintro (hx | hx); exact absurd hx (by decide); exact hx hk)]
 rw [decide_eq_true (show (Ci d c b).kind ≠ 2 from hc.2.2)]
theorem bV.down {d:Sd} {N:Nat} (hs:DD d N) {up:Bool} {K:Key} (h:bV d up K) (h2:d.end_.phase = 2) (b:List Int):chk (d.log ++ [Ci d 2 b]) = some (false,K):=by
 have hk:=(IB hs h2 2 b).trans (h.key h2).symm
 have hu:up = true:=by rw [h.up]; exact decide_eq_true h2
 rw [KZ,h.eq]
 unfold XE
 simp only []
 rw [if_neg (show ¬ (Ci d 2 b).kind = 5 from by show ¬ (2:Int) = 5; decide),if_neg (show ¬ (Ci d 2 b).kind = 1 from by show ¬ (2:Int) = 1; decide),if_neg (by rw [hu]; rintro (hx | hx); exact absurd hx (by decide); exact hx hk)]
 rw [show decide ((Ci d 2 b).kind ≠ 2) = false from by show decide ((2:Int) ≠ 2) = false; decide]
theorem DD.send {d:Sd} {N:Nat} (h:DD d N) (h2:d.end_.phase = 2) {L':Lk} (b:List Int) (hs:Same { d.end_ with queue:=d.end_.queue ++ [b] } L') (hf:L'.Fine) (hbl:b.length ≤ 1000):DD (DZ (Ai d L') 3 b) (N + 1):=by
 obtain ⟨up,K,hc⟩:=h.told
 have hkey:Cj L' = Cj d.end_:=(Eo hs).trans rfl
 have DT:L'.phase = 2:=hs.phase.trans h2
 have bW:keyE (Ci (Ai d L') 3 b) = Cj d.end_:=IB h h2 3 b
 have hyes:Fe 3 (d.log ++ [Ci (Ai d L') 3 b]) (Cj L') = Fe 3 d.log (Cj d.end_) ++ [b]:=by rw [hkey]; exact QB rfl bW
 refine ⟨hf,h.AB.trans hs.own.symm,fun _ => (h.last h2).trans hkey.symm,JC h.len,⟨true,K,⟨hc.tell h h2 (c:=3) (by decide) b,(decide_eq_true DT).symm,hc.AB.trans hs.own.symm,hc.O8,?_,fun h1 => ?_,?_,fun _ => (hc.key h2).trans hkey.symm⟩⟩,fun e he hk => ?_,fun h1 => ?_,fun _ => ?_,fun _ => ?_,Gq h.short hbl⟩
 ·show _ ≤ L'.token; rw [hs.token]; exact hc.mine
 ·have h1':L'.phase = 1:=h1
  omega
 ·show _ < L'.AB ∨ _ = L'.AB ∧ _ ≤ L'.yours
  rw [hs.AB,hs.yours]; exact hc.peer
 ·show _ < L'.own ∨ _ = L'.own ∧ _ ≤ L'.token ∧ (L'.phase = 1 → _)
  rw [hs.own,hs.token]
  rcases List.mem_append.1 he with he | he
  ·have:=h.fresh e he hk
   rcases this with hx | hx
   ·exact .inl hx
   ·exact .inr ⟨hx.1,hx.2.1,fun h1 => by omega⟩
  ·rw [List.mem_singleton.1 he]
   have h3:=bW
   unfold Cj keyE at h3
   injection h3 with h4 h5
   injection h5 with h5 h6
   exact .inr ⟨h4,by rw [h5]; exact Int.le_refl _,fun h1 => by omega⟩
 ·have h1':L'.phase = 1:=h1
  omega
 ·show L'.expected = sn (Fe 4 (d.log ++ [Ci (Ai d L') 3 b]) (Cj L')).length
  rw [JB (show (3:Int) ≠ 4 by decide),hkey,hs.expected]
  exact h.got h2
 ·obtain ⟨m,hm,hq,hb⟩:=h.sent h2
  show ∃ m,m ≤ (Fe 3 (d.log ++ [Ci (Ai d L') 3 b]) (Cj L')).length ∧ L'.queue = (Fe 3 (d.log ++ [Ci (Ai d L') 3 b]) (Cj L')).drop m ∧ L'.base = sn m
  rw [hyes,hs.queue,hs.base]
  refine ⟨m,by rw [List.length_append]; omega,?_,hb⟩
  show d.end_.queue ++ [b] = _
  rw [List.drop_append_of_le_length hm,← hq]
theorem Z43 {p:Prop} (h:p:=by
 have hl:d.end_.queue.length = (Fe 3 d.log (Cj d.end_)).length - m:=by rw [hq,List.length_drop]
 refine ⟨m + k,by omega,?_,?_⟩
 ·show d.end_.queue.drop k = _
  rw [hq,List.drop_drop]
 ·show IntKind.u32.wrap (d.end_.base + (k:Int)) = _
  rw [hb,jw]):p:=h
theorem DD.signal {d:Sd} {N:Nat} (h:DD d N) (h2:d.end_.phase = 2) {p:Bz} {L':Lk} (k:Nat) (hk:k ≤ d.end_.queue.length) (hx:Same (jr d.end_ p k) L') (hf:L'.Fine) (hd:¬ (p.kind = 2 ∧ p.seq = d.end_.expected)):DD (Ai d L') (N + 1):=by
 obtain ⟨up,K,hc⟩:=h.told
 have hkey:Cj L' = Cj d.end_:=(Eo hx).trans rfl
 have DT:L'.phase = 2:=hx.phase.trans h2
 have hu:up = true:=by rw [hc.up]; exact decide_eq_true h2
 have hexp:L'.expected = d.end_.expected:=by rw [hx.expected]; show (FU d.end_ p).expected = _; unfold FU; rw [if_neg hd]
 refine ⟨hf,h.AB.trans hx.own.symm,fun _ => (h.last h2).trans hkey.symm,by exact Nat.le_succ_of_le h.len,⟨true,K,⟨by rw [← hu]; exact hc.eq,(decide_eq_true DT).symm,hc.AB.trans hx.own.symm,hc.O8,?_,fun h1 => ?_,?_,fun _ => (hc.key h2).trans hkey.symm⟩⟩,fun e he hk => ?_,fun h1 => ?_,fun _ => ?_,fun _ => ?_,h.short⟩
 ·show _ ≤ L'.token; rw [hx.token]; exact hc.mine
 ·have h1':L'.phase = 1:=h1
  omega
 ·show _ < L'.AB ∨ _ = L'.AB ∧ _ ≤ L'.yours
  rw [hx.AB,hx.yours]; exact hc.peer
 ·show _ < L'.own ∨ _ = L'.own ∧ _ ≤ L'.token ∧ (L'.phase = 1 → _)
  rw [hx.own,hx.token]
  rcases h.fresh e he hk with hx | hx
  ·exact .inl hx
  ·exact .inr ⟨hx.1,hx.2.1,fun h1 => by omega⟩
 ·have h1':L'.phase = 1:=h1
  omega
 ·show L'.expected = sn (Fe 4 d.log (Cj L')).length
  rw [hkey,hexp]; exact h.got h2
 ·obtain ⟨m,hm,hq,hb⟩:=h.sent h2
  show ∃ m,m ≤ (Fe 3 d.log (Cj L')).length ∧ L'.queue = (Fe 3 d.log (Cj L')).drop m ∧ L'.base = sn m
  rw [hkey,hx.queue,hx.base]
  exact Z43
theorem DD.zN {d:Sd} {N:Nat} (h:DD d N) (h2:d.end_.phase = 2) {p:Bz} {L':Lk} (k:Nat) (hk:k ≤ d.end_.queue.length) (hx:Same (jr d.end_ p k) L') (hf:L'.Fine) (hd:p.kind = 2 ∧ p.seq = d.end_.expected) (b:List Int) (hbl:b.length ≤ 1000):DD (DZ (Ai d L') 4 b) (N + 1):=by
 obtain ⟨up,K,hc⟩:=h.told
 have hkey:Cj L' = Cj d.end_:=(Eo hx).trans rfl
 have DT:L'.phase = 2:=hx.phase.trans h2
 have bW:keyE (Ci (Ai d L') 4 b) = Cj d.end_:=IB h h2 4 b
 have hyes:Fe 4 (d.log ++ [Ci (Ai d L') 4 b]) (Cj L') = Fe 4 d.log (Cj d.end_) ++ [b]:=by rw [hkey]; exact QB rfl bW
 have hexp:L'.expected = IntKind.u32.wrap (d.end_.expected + 1):=by rw [hx.expected]; show (FU d.end_ p).expected = _; unfold FU; rw [if_pos hd]; rfl
 refine ⟨hf,h.AB.trans hx.own.symm,fun _ => (h.last h2).trans hkey.symm,JC h.len,⟨true,K,⟨hc.tell h h2 (c:=4) (by decide) b,(decide_eq_true DT).symm,hc.AB.trans hx.own.symm,hc.O8,?_,fun h1 => ?_,?_,fun _ => (hc.key h2).trans hkey.symm⟩⟩,fun e he hk => ?_,fun h1 => ?_,fun _ => ?_,fun _ => ?_,Gq h.short hbl⟩
 ·show _ ≤ L'.token; rw [hx.token]; exact hc.mine
 ·have h1':L'.phase = 1:=h1
  omega
 ·show _ < L'.AB ∨ _ = L'.AB ∧ _ ≤ L'.yours
  rw [hx.AB,hx.yours]; exact hc.peer
 ·show _ < L'.own ∨ _ = L'.own ∧ _ ≤ L'.token ∧ (L'.phase = 1 → _)
  rw [hx.own,hx.token]
  rcases List.mem_append.1 he with he | he
  ·rcases h.fresh e he hk with hx | hx
   ·exact .inl hx
   ·exact .inr ⟨hx.1,hx.2.1,fun h1 => by omega⟩
  ·rw [List.mem_singleton.1 he]
   have h3:=bW
   unfold Cj keyE at h3
   injection h3 with h4 h5
   injection h5 with h5 h6
   exact .inr ⟨h4,by rw [h5]; exact Int.le_refl _,fun h1 => by omega⟩
 ·have h1':L'.phase = 1:=h1
  omega
 ·show L'.expected = sn (Fe 4 (d.log ++ [Ci (Ai d L') 4 b]) (Cj L')).length
  rw [hyes,hexp,h.got h2,bT,List.length_append]; rfl
 ·obtain ⟨m,hm,hq,hb⟩:=h.sent h2
  show ∃ m,m ≤ (Fe 3 (d.log ++ [Ci (Ai d L') 4 b]) (Cj L')).length ∧ L'.queue = (Fe 3 (d.log ++ [Ci (Ai d L') 4 b]) (Cj L')).drop m ∧ L'.base = sn m
  rw [JB (show (4:Int) ≠ 3 by decide),hkey,hx.queue,hx.base]
  exact Z43
theorem DD.leave {d:Sd} {N:Nat} (h:DD d N) {L':Lk} (hf:L'.Fine) (hp:L'.phase ≠ 2) (ho:L'.own = d.end_.own) (ht:d.end_.token ≤ L'.token) (ht1:L'.phase = 1 → d.end_.token < L'.token)
  (hb:d.end_.AB < L'.AB ∨ d.end_.AB = L'.AB ∧ d.end_.yours ≤ L'.yours) (hi:L'.phase = 1 → L'.expected = sn 0 ∧ L'.base = sn 0):DD (if d.end_.phase = 2 then DZ (Ai d L') 2 [] else Ai d L') (N + 1):=by
 obtain ⟨up,K,hc⟩:=h.told
 have hm:=hc.mine
 have hpe:=hc.peer
 have hfr:∀ e ∈ d.log,e.kind = 3 ∨ e.kind = 4 → e.AB < L'.own ∨ e.AB = L'.own ∧ e.mine ≤ L'.token ∧ (L'.phase = 1 → e.mine < L'.token):=fun e he hk => by
  rw [ho]
  rcases h.fresh e he hk with hx | hx
  ·exact .inl hx
  ·exact .inr ⟨hx.1,by omega,fun h1 => by have:=ht1 h1; omega⟩
 have hck:∀ (d':Sd) (u:Bool),d'.end_ = L' → u = false → chk d'.log = some (u,K) → bV d' u K:=fun d' u he hu hq => ⟨hq,by rw [he,hu]; exact (decide_eq_false hp).symm,by rw [he,ho]; exact hc.AB,hc.O8,by rw [he]; omega,fun h1 => by rw [he] at h1 ⊢; have:=ht1 h1; omega,by rw [he]; omega,fun h2 => absurd (he ▸ h2) hp⟩
 split
 ·rename_i h2
  refine ⟨hf,h.AB.trans ho.symm,fun h2 => absurd h2 hp,JC h.len,⟨false,K,hck _ _ rfl rfl (hc.down h h2 [])⟩,fun e he hk => ?_,hi,fun h2 => absurd h2 hp,fun h2 => absurd h2 hp,Gq h.short (Nat.zero_le _)⟩
  rcases List.mem_append.1 he with he | he
  ·exact hfr e he hk
  ·rw [List.mem_singleton.1 he] at hk
   exact absurd hk (by show ¬ ((2:Int) = 3 ∨ (2:Int) = 4); decide)
 ·rename_i h2
  have hu:up = false:=by rw [hc.up]; exact decide_eq_false h2
  exact ⟨hf,h.AB.trans ho.symm,fun h2 => absurd h2 hp,Nat.le_succ_of_le h.len,⟨false,K,hck _ _ rfl rfl (by rw [← hu]; exact hc.eq)⟩,hfr,hi,fun h2 => absurd h2 hp,fun h2 => absurd h2 hp,h.short⟩
theorem DD.learn {d:Sd} {N:Nat} (h:DD d N) (h1:d.end_.phase = 1) {L':Lk} {b y:Int} (hs:Same { d.end_ with AB:=b,yours:=y,known:=true } L') (hf:L'.Fine) (hb:d.end_.AB < b ∨ d.end_.AB = b ∧ d.end_.yours ≤ y):DD (Ai d L') (N + 1):=by
 obtain ⟨up,K,hc⟩:=h.told
 have DT:L'.phase = 1:=hs.phase.trans h1
 have hpe:=hc.peer
 have hu:up = false:=by rw [hc.up]; exact decide_eq_false (by omega)
 refine ⟨hf,h.AB.trans hs.own.symm,fun h2 => ?_,Nat.le_succ_of_le h.len,⟨false,K,⟨by rw [← hu]; exact hc.eq,(decide_eq_false (by show ¬ L'.phase = 2; omega)).symm,hc.AB.trans hs.own.symm,hc.O8,?_,fun _ => ?_,?_,fun h2 => ?_⟩⟩,fun e he hk => ?_,fun _ => ?_,fun h2 => ?_,fun h2 => ?_,h.short⟩
 ·have h2':L'.phase = 2:=h2
  omega
 ·show _ ≤ L'.token; rw [hs.token]; exact hc.mine
 ·show _ < L'.token; rw [hs.token]; exact hc.less h1
 ·show _ < L'.AB ∨ _ = L'.AB ∧ _ ≤ L'.yours
  rw [hs.AB,hs.yours]
  show _ < b ∨ _ = b ∧ _ ≤ y
  omega
 ·have h2':L'.phase = 2:=h2
  omega
 ·show _ < L'.own ∨ _ = L'.own ∧ _ ≤ L'.token ∧ (L'.phase = 1 → _ < L'.token)
  rw [hs.own,hs.token,hs.phase]; exact h.fresh e he hk
 ·show L'.expected = _ ∧ L'.base = _
  rw [hs.expected,hs.base]; exact h.init h1
 ·have h2':L'.phase = 2:=h2
  omega
 ·have h2':L'.phase = 2:=h2
  omega
theorem DD.up {d:Sd} {N:Nat} (h:DD d N) (h1:d.end_.phase = 1) {L':Lk} {b y:Int} (hs:Same { d.end_ with AB:=b,yours:=y,known:=true,phase:=2 } L') (hf:L'.Fine) (hb:d.end_.AB < b ∨ d.end_.AB = b ∧ d.end_.yours ≤ y) (hb0:0 < b) (hy0:0 < y):DD (DZ (MV (Ai d L')) 1 []) (N + 1):=by
 obtain ⟨up,K,hc⟩:=h.told
 have DT:L'.phase = 2:=hs.phase
 have hpe:=hc.peer
 have hle:=hc.less h1
 have hu:up = false:=by rw [hc.up]; exact decide_eq_false (by omega)
 have hkn:L'.known = true:=hs.known
 have hB:L'.AB = b:=hs.AB
 have hY:L'.yours = y:=hs.yours
 have hla:((MV (Ai d L')).last.AB,(MV (Ai d L')).last.mine,(MV (Ai d L')).last.peer,(MV (Ai d L')).last.yours) = Cj L':=by
  show (d.AB,L'.token,(if L'.known = true then L'.AB else 0),(if L'.known = true then L'.yours else 0)) = _
  rw [if_pos hkn,if_pos hkn,h.AB]
  unfold Cj; rw [hs.own]
 have bW:keyE (Ci (MV (Ai d L')) 1 []) = Cj L':=hla
 have hemp:∀ c,c = 3 ∨ c = 4 → Fe c d.log (Cj L') = []:=fun c hcc => bQ (fun e he hk hx => by
  have h3:=hx
  unfold Cj keyE at h3
  injection h3 with h4 h5
  injection h5 with h5 h6
  rw [hs.own] at h4; rw [hs.token] at h5
  have h4':e.AB = d.end_.own:=h4
  have h5':e.mine = d.end_.token:=h5
  rcases h.fresh e he (by rw [hk]; exact hcc) with hx | hx
  ·omega
  ·have:=hx.2.2 h1; omega)
 have hq0:d.end_.queue = []:=h.fine.Ii (by omega)
 refine ⟨hf,h.AB.trans hs.own.symm,fun _ => hla,JC h.len,⟨true,Cj L',⟨?_,(decide_eq_true DT).symm,rfl,?_,Int.le_refl _,fun hx => ?_,.inr ⟨rfl,Int.le_refl _⟩,fun _ => rfl⟩⟩,fun e he hk => ?_,fun hx => ?_,fun _ => ?_,fun _ => ?_,Gq h.short (Nat.zero_le _)⟩
 ·show chk (d.log ++ [Ci (MV (Ai d L')) 1 []]) = _
  rw [KZ,hc.eq]
  unfold XE
  simp only []
  rw [if_neg (show ¬ (Ci (MV (Ai d L')) 1 []).kind = 5 from by show ¬ (1:Int) = 5; decide),if_pos (show (Ci (MV (Ai d L')) 1 []).kind = 1 from rfl)]
  have e1:(Ci (MV (Ai d L')) 1 []).AB = d.end_.own:=h.AB
  have e2:(Ci (MV (Ai d L')) 1 []).mine = d.end_.token:=hs.token
  have e3:(Ci (MV (Ai d L')) 1 []).peer = b:=by show (if L'.known = true then L'.AB else 0) = b; rw [if_pos hkn,hB]
  have e4:(Ci (MV (Ai d L')) 1 []).yours = y:=by show (if L'.known = true then L'.yours else 0) = y; rw [if_pos hkn,hY]
  rw [if_neg,bW]
  rw [e1,e2,e3,e4,hu]
  have:=hc.AB
  rintro (hx | hx | hx | hx | hx | hx | hx)
  ·exact absurd hx (by decide)
  ·exact hx this.symm
  ·omega
  ·omega
  ·omega
  ·omega
  ·omega
 ·show 0 ≤ L'.token
  exact hf.ok.token.1
 ·have hx':L'.phase = 1:=hx
  omega
 ·show _ < L'.own ∨ _ = L'.own ∧ _ ≤ L'.token ∧ (L'.phase = 1 → _)
  rcases List.mem_append.1 he with he | he
  ·rw [hs.own,hs.token]
   rcases h.fresh e he hk with hx | hx
   ·exact .inl hx
   ·exact .inr ⟨hx.1,hx.2.1,fun hx => by omega⟩
  ·rw [List.mem_singleton.1 he] at hk
   exact absurd hk (by show ¬ ((1:Int) = 3 ∨ (1:Int) = 4); decide)
 ·have hx':L'.phase = 1:=hx
  omega
 ·show L'.expected = sn (Fe 4 (d.log ++ [Ci (MV (Ai d L')) 1 []]) (Cj L')).length
  rw [JB (show (1:Int) ≠ 4 by decide),hemp 4 (.inr rfl),hs.expected]
  exact (h.init h1).1
 ·show ∃ m,m ≤ (Fe 3 (d.log ++ [Ci (MV (Ai d L')) 1 []]) (Cj L')).length ∧ L'.queue = (Fe 3 (d.log ++ [Ci (MV (Ai d L')) 1 []]) (Cj L')).drop m ∧ L'.base = sn m
  rw [JB (show (1:Int) ≠ 3 by decide),hemp 3 (.inl rfl),hs.queue,hs.base]
  exact ⟨0,Nat.le_refl _,hq0,(h.init h1).2⟩
theorem DD.kC {d:Sd} {N:Nat} (h:DD d N) (hm:d.AB ≠ 4294967295):DD (C9 d) (N + 1):=by
 obtain ⟨up,K,hc⟩:=h.told
 have ho:=h.fine.ok.own
 have hb:=h.AB
 have hf:(newL (d.AB + 1)).Fine:=Q9 (by omega)
 unfold C9
 rw [if_neg hm]
 refine ⟨hf,rfl,fun h2 => absurd (show (0:Int) = 2 from h2) (by decide),JC h.len,⟨false,(d.AB + 1,0,0,0),⟨?_,rfl,rfl,Int.le_refl _,Int.le_refl _,fun h1 => absurd (show (0:Int) = 1 from h1) (by decide),.inr ⟨rfl,Int.le_refl _⟩,fun h2 => absurd (show (0:Int) = 2 from h2) (by decide)⟩⟩,fun e he hk => ?_,fun h1 => absurd (show (0:Int) = 1 from h1) (by decide),fun h2 => absurd (show (0:Int) = 2 from h2) (by decide),fun h2 => absurd (show (0:Int) = 2 from h2) (by decide),Gq h.short (Nat.zero_le _)⟩
 ·show chk (d.log ++ [_]) = _
  rw [KZ,hc.eq]
  unfold XE
  simp only []
  rw [if_pos trivial,if_pos]
  rw [hc.AB,← hb]
 ·show _ < d.AB + 1 ∨ _ = d.AB + 1 ∧ _
  rcases List.mem_append.1 he with he | he
  ·rcases h.fresh e he hk with hx | hx
   ·left; omega
   ·left; omega
  ·rw [List.mem_singleton.1 he] at hk
   exact absurd hk (by show ¬ ((5:Int) = 3 ∨ (5:Int) = 4); decide)
structure XF (X:Pr) (f:Fl):Prop where
 dst:f.dst = 0 ∨ f.dst = 1
 good:f.p.Good
 AB:0 < f.AB ∧ f.AB < 4294967296
 data:f.p.kind = 2 → ∃ j:Nat,(Fe 3 (X.sd (1 - f.dst.toNat)).log (f.AB,f.p.mine,f.p.AB,f.p.yours))[j]? = some f.p.body ∧ f.p.seq = sn j
structure Fz (X:Pr) (N:Nat):Prop where
 side:∀ s,s < 2 → DD (X.sd s) N
 says:∀ s,s < 2 → Cf (X.sd s).end_
 way:X.way.length ≤ 1024
 fl:∀ f ∈ X.way,XF X f
 pref:∀ s,s < 2 → ∀ K,Fe 4 (X.sd s).log K <+: Fe 3 (X.sd (1 - s)).log (rZ K)
structure Inv (X:Pr) (N:Nat):Prop where
 p:Fz X N
 out:∀ s,s < 2 → (X.sd s).end_.out = []
theorem XF.Nl {X:Pr} {f:Fl} (h:XF X f) {s:Nat} {d:Sd} (hl:∃ es,d.log = (X.sd s).log ++ es):XF (X.set s d) f:=by
 refine ⟨h.dst,h.good,h.AB,fun hk => ?_⟩
 obtain ⟨j,hj,hs⟩:=h.data hk
 refine ⟨j,?_,hs⟩
 by_cases ht:1 - f.dst.toNat = s
 ·rw [ht] at hj ⊢
  rw [Pr.Ae]
  obtain ⟨es,he⟩:=hl
  have hlt:=(List.getElem?_eq_some_iff.1 hj).1
  rw [he,Gp,List.getElem?_append_left hlt]
  exact hj
 ·rw [Pr.BP X ht]; exact hj
theorem Fz.Nl {X:Pr} {N M:Nat} (h:Fz X N) {s:Nat} (hs:s < 2) {d:Sd} (hd:DD d M) (hM:N ≤ M) (IY:Cf d.end_) (Yl:∃ es,d.log = (X.sd s).log ++ es) (hg:∀ K,Fe 4 d.log K <+: Fe 3 (X.sd (1 - s)).log (rZ K)):Fz (X.set s d) M:=by
 refine ⟨fun t ht => ?_,fun t ht => ?_,h.way,fun f hf => (h.fl f hf).Nl Yl,fun t ht K => ?_⟩
 ·by_cases hts:t = s
  ·subst hts; rw [Pr.Ae]; exact hd
  ·rw [Pr.BP X hts]; exact (h.side t ht).more hM
 ·by_cases hts:t = s
  ·subst hts; rw [Pr.Ae]; exact IY
  ·rw [Pr.BP X hts]; exact h.says t ht
 ·by_cases hts:t = s
  ·subst hts
   rw [Pr.Ae,Pr.BP X (show 1 - t ≠ t by omega)]
   exact hg K
  ·rw [Pr.BP X hts,show 1 - t = s by omega,Pr.Ae]
   have hp:=h.pref t ht K
   rw [show 1 - t = s by omega] at hp
   obtain ⟨es,he⟩:=Yl
   rw [he,Gp]
   exact hp.trans (List.prefix_append _ _)
theorem Fz.ways {X:Pr} {N:Nat} (h:Fz X N) {ws:List Fl} (hw:∀ f ∈ ws,XF X f) (hl:ws.length ≤ 1024):Fz { X with way:=ws } N :=
 ⟨h.side,h.says,hl,fun f hf => ⟨(hw f hf).dst,(hw f hf).good,(hw f hf).AB,(hw f hf).data⟩,h.pref⟩
theorem Fz.more {X:Pr} {N M:Nat} (h:Fz X N) (hM:N ≤ M):Fz X M:=⟨fun s hs => (h.side s hs).more hM,h.says,h.way,h.fl,h.pref⟩
theorem Fz.put {X:Pr} {N:Nat} (h:Fz X N) {f:Fl} (hf:XF X f):Fz (GU X f) N:=by
 unfold GU
 split
 ·refine h.ways (fun g hg => ?_) (by rw [List.length_append]; simp only [List.length_singleton]; omega)
  rcases List.mem_append.1 hg with hg | hg
  ·exact h.fl g hg
  ·rw [List.mem_singleton.1 hg]; exact hf
 ·exact h
theorem XF.sd {X Y:Pr} {f:Fl} (h:XF X f) (hs:Y.sd = X.sd):XF Y f:=⟨h.dst,h.good,h.AB,fun hk => by rw [hs]; exact h.data hk⟩
theorem bY {X:Pr} {N s:Nat} (hs:s < 2) (h:DD (X.sd s) N) {p:Bz} (hp:Says (X.sd s).end_ p):XF X ⟨1 - (s:Int),(X.sd s).AB,p⟩:=by
 have hb:=h.AB
 have ho:=h.fine.own
 have ho2:=h.fine.ok.own
 have hd:(1 - (1 - (s:Int)).toNat) = s:=by omega
 refine ⟨by show 1 - (s:Int) = 0 ∨ 1 - (s:Int) = 1; omega,?_,by show 0 < (X.sd s).AB ∧ (X.sd s).AB < _; omega,fun hk => ?_⟩
 ·rcases hp with hp | hp | hp
  ·rw [hp.1]; exact Eh h.fine hp.2
  ·obtain ⟨h2,i,hi,hp⟩:=hp
   rw [hp]; exact LJ h.fine h2 i (by omega) (by omega)
  ·rw [hp.2]; exact Q8 h.fine hp.1
 ·rcases hp with hp | hp | hp
  ·exact absurd (show (1:Int) = 2 by rw [hp.1] at hk; exact hk) (by decide)
  ·obtain ⟨h2,i,hi,hp⟩:=hp
   obtain ⟨m,hm,hq,hbs⟩:=h.sent h2
   subst hp
   show ∃ j:Nat,(Fe 3 (X.sd (1 - (1 - (s:Int)).toNat)).log ((X.sd s).AB,(X.sd s).end_.token,(X.sd s).end_.AB,(X.sd s).end_.yours))[j]? = some ((X.sd s).end_.queue.getD (i:Int).toNat []) ∧ IntKind.u32.wrap ((X.sd s).end_.base + IntKind.u32.wrap (i:Int)) = sn j
   rw [hd,hb,hbs,bU]
   refine ⟨m + i,?_,rfl⟩
   rw [Int.toNat_natCast,List.getD_eq_getElem?_getD,List.getElem?_eq_getElem hi]
   have hx:(X.sd s).end_.queue[i]? = some ((X.sd s).end_.queue[i]):=List.getElem?_eq_getElem hi
   rw [show (X.sd s).end_.queue[i]? = ((Fe 3 (X.sd s).log (Cj (X.sd s).end_)).drop m)[i]? from congrArg (·[i]?) hq,List.getElem?_drop] at hx
   exact hx
  ·exact absurd (show (3:Int) = 2 by rw [hp.2] at hk; exact hk) (by decide)
theorem XG (s b:Int) (ps:List Bz):∀ X:Pr,(DU X s b ps).sd = X.sd:=by
 induction ps with
 | nil => exact fun _ => rfl
 | cons p ps ih => exact fun X => (ih (GU X ⟨1 - s,b,p⟩)).trans (MS X _)
theorem Fz.puts {N:Nat} {s b:Int} (ps:List Bz):∀ {X:Pr},Fz X N → (∀ p ∈ ps,XF X ⟨1 - s,b,p⟩) → Fz (DU X s b ps) N:=by
 induction ps with
 | nil => exact fun h _ => h
 | cons p ps ih =>
  intro X h hp
  exact ih (h.put (hp p List.mem_cons_self)) (fun q hq => (hp q (List.mem_cons_of_mem _ hq)).sd (MS X _))
theorem Ym (L:Lk):Same L (Fq L):=⟨rfl,rfl,rfl,rfl,rfl,rfl,rfl,rfl,rfl⟩
theorem IZ (X:Pr) (s t:Nat):(BC X s).sd t = if t = s then Ai (X.sd s) (Fq (X.sd s).end_) else X.sd t:=by
 unfold BC
 rw [XG]
 rfl
theorem Fz.pump {X:Pr} {N:Nat} (h:Fz X N) {s:Nat} (hs:s < 2):Fz (BC X s) N:=by
 have hd:=(h.side s hs).same (d':=Ai (X.sd s) (Fq (X.sd s).end_)) rfl rfl rfl (Ym _) (YN (h.side s hs).fine)
 have h1:Fz (X.set s (Ai (X.sd s) (Fq (X.sd s).end_))) N:=h.Nl hs hd (Nat.le_refl _) (fun p hp => by cases hp) ⟨[],by simp [Ai]⟩ (h.pref s hs)
 unfold BC
 refine Fz.puts _ h1 (fun p hp => ?_)
 exact (bY hs (h.side s hs) (h.says s hs p hp)).Nl ⟨[],by simp [Ai]⟩
theorem UW {L:Lk} {b m:Int} (h:Bo L b m ≠ -1):L.AB < b ∨ L.AB = b ∧ L.yours ≤ m:=by
 unfold Bo at h
 split at h
 ·exact absurd rfl h
 ·split at h
  ·split at h
   ·exact absurd rfl h
   ·right; omega
  ·left; omega
theorem Yn {L:Lk} {b m:Int} (h:Bo L b m = 0):b = L.AB ∧ m = L.yours:=by
 unfold Bo at h
 split at h
 ·exact absurd h (by decide)
 ·split at h
  ·split at h
   ·exact absurd h (by decide)
   ·split at h
    ·constructor <;> assumption
    ·exact absurd h (by decide)
  ·exact absurd h (by decide)
theorem XH {L:Lk} {p:Bz} (h:BI L p = true):p.AB = L.own ∧ p.yours = L.token:=by unfold BI at h; exact of_decide_eq_true h
theorem RX {G S:List (List Int)} {b:List Int} (h:G <+: S) (hb:S[G.length]? = some b):G ++ [b] <+: S:=by
 obtain ⟨t,ht⟩:=h
 subst ht
 rw [List.getElem?_append_right (Nat.le_refl _),Nat.sub_self] at hb
 cases t with
 | nil => cases hb
 | cons c t =>
  have:c = b:=by simpa using hb
  subst this
  exact ⟨t,by simp⟩
theorem QC {X:Pr} {N s:Nat} (h:Fz X N) (hs:s < 2) {l:List Ei} {e:Ei} (hl:l = (X.sd s).log ++ [e]) (he:e.kind ≠ 4):∀ K,Fe 4 l K <+: Fe 3 (X.sd (1 - s)).log (rZ K):=fun K => by
 rw [hl,JB he]; exact h.pref s hs K
theorem O9 (d:Sd):Ai d d.end_ = d:=rfl
theorem set_self (X:Pr) (s:Nat):X.set s (X.sd s) = X:=by
 unfold Pr.set
 congr 1
 funext t
 by_cases h:t = s
 ·subst h; simp
 ·simp [h]
theorem Gg {X:Pr} {a:Act} (h:LX X a = 0):(1 ≤ a.kind ∧ a.kind ≤ 8) ∧ (a.kind < 6 → a.side = 0 ∨ a.side = 1) ∧ (6 ≤ a.kind → 0 ≤ a.i ∧ a.i.toNat < X.way.length):=by
 unfold LX at h
 split at h
 ·exact absurd h (by decide)
 split at h
 ·exact absurd h (by decide)
 split at h
 ·exact absurd h (by decide)
 ·omega
theorem Yo {X:Pr} {N:Nat} (h:Inv X N) (hN:N < 4294967295) {f:Fl} (hf:XF X f) :
  DD (DW (X.sd f.dst.toNat) (Bf (X.sd f.dst.toNat).end_ f.AB f.p)) (N + 1) ∧ Cf (DW (X.sd f.dst.toNat) (Bf (X.sd f.dst.toNat).end_ f.AB f.p)).end_ ∧
   (∃ es,(DW (X.sd f.dst.toNat) (Bf (X.sd f.dst.toNat).end_ f.AB f.p)).log = (X.sd f.dst.toNat).log ++ es) ∧ (∀ K,Fe 4 (DW (X.sd f.dst.toNat) (Bf (X.sd f.dst.toNat).end_ f.AB f.p)).log K <+: Fe 3 (X.sd (1 - f.dst.toNat)).log (rZ K)):=by
 have hs:f.dst.toNat < 2:=by have:=hf.dst; omega
 generalize hst:f.dst.toNat = s at *
 have hd:=h.p.side s hs
 have hpr:=h.p.pref s hs
 have ho:=h.out s hs
 have hoth:=h.p.side (1 - s) (by omega)
 have hgc:=J3 hf.good
 have Np:=WY hd.fine hf.AB hf.good
 have hdata:=hf.data
 rw [hst] at hdata
 obtain ⟨hc,IY⟩:=IA hd.fine.ok ho f.AB f.p
 generalize hL:(Bf (X.sd s).end_ f.AB f.p).1 = L' at *
 generalize hT:(Bf (X.sd s).end_ f.AB f.p).2 = t at *
 have hx:Bf (X.sd s).end_ f.AB f.p = (L',t):=by rw [← hL,← hT]
 rw [hx]
 generalize hdd:X.sd s = d at *
 have hone:∀ (e:Ei) (d':Sd),d'.log = d.log → (∃ es,(DZ d' e.kind e.body).log = d.log ++ es):=fun e d' he => ⟨[Ci d' e.kind e.body],by show d'.log ++ _ = _; rw [he]⟩
 cases hc with
 | @none hd0 _ =>
  have e1:DW d (d.end_,⟨hd0,false,false,[]⟩) = d:=by unfold DW; rfl
  rw [e1]
  exact ⟨hd.more (Nat.le_succ _),IY,⟨[],by simp⟩,hpr⟩
 | up h1 hk ha hm hss hy =>
  have e1:DW d (L',⟨true,true,false,[]⟩) = DZ (MV (Ai d L')) 1 []:=by unfold DW; rfl
  rw [e1]
  exact ⟨hd.up h1 hss Np (UW ha) hf.AB.1 hgc.1,IY,⟨[_],rfl⟩,fun K => by
   show Fe 4 (d.log ++ [Ci (MV (Ai d L')) 1 []]) K <+: _
   rw [JB (show (1:Int) ≠ 4 by decide)]; exact hpr K⟩
 | learn h1 hk ha hm hss hy =>
  have e1:DW d (L',⟨true,false,false,[]⟩) = Ai d L':=by unfold DW; rfl
  rw [e1]
  exact ⟨hd.learn h1 hss Np (UW ha),IY,⟨[],by simp [Ai]⟩,hpr⟩
 | again h2 hk ha h0 hss hy =>
  have e1:DW d (L',⟨true,false,false,[]⟩) = Ai d L':=by unfold DW; rfl
  rw [e1]
  exact ⟨(hd.same (d':=Ai d L') rfl rfl rfl hss Np).more (Nat.le_succ _),IY,⟨[],by simp [Ai]⟩,hpr⟩
 | last h2 hk ha ht =>
  have e1:DW d (Aa d.end_,⟨true,false,true,[]⟩) = DZ (Ai d (Aa d.end_)) 2 []:=by unfold DW; rfl
  rw [e1]
  have hl:=hd.leave (L':=Aa d.end_) Np (show (0:Int) ≠ 2 by decide) rfl (Int.le_refl _) (fun hx => absurd (show (0:Int) = 1 from hx) (by decide)) (.inr ⟨rfl,Int.le_refl _⟩) (fun hx => absurd (show (0:Int) = 1 from hx) (by decide))
  rw [if_pos h2] at hl
  exact ⟨hl,IY,⟨[_],rfl⟩,fun K => by
   show Fe 4 (d.log ++ [Ci (Ai d (Aa d.end_)) 2 []]) K <+: _
   rw [JB (show (2:Int) ≠ 4 by decide)]; exact hpr K⟩
 | anew h2 hk ha ht hss hy =>
  have e1:DW d (L',⟨true,false,true,[]⟩) = DZ (Ai d L') 2 []:=by unfold DW; rfl
  rw [e1]
  have DT:L'.phase = 1:=hss.phase
  have htk:L'.token = d.end_.token + 1:=hss.token
  have hbt:L'.AB = f.AB:=hss.AB
  have hyr:L'.yours = f.p.mine:=hss.yours
  have hl:=hd.leave (L':=L') Np (by omega) hss.own (by omega) (fun _ => by omega) (by rw [hbt,hyr]; exact UW (by omega)) (fun _ => ⟨by rw [hss.expected,wR]; rfl,by rw [hss.base,wR]; rfl⟩)
  rw [if_pos h2] at hl
  exact ⟨hl,IY,⟨[_],rfl⟩,fun K => by
   show Fe 4 (d.log ++ [Ci (Ai d L') 2 []]) K <+: _
   rw [JB (show (2:Int) ≠ 4 by decide)]; exact hpr K⟩
 | signal h2 hk ha hm k hkk hxx hy =>
  have hsn:=hd.fine.ok.sent
  have hkq:k ≤ d.end_.queue.length:=by omega
  have haz:=Yn ha
  have hmz:=XH hm
  by_cases hg:f.p.kind = 2 ∧ f.p.seq = d.end_.expected
  ·have hb:OV d.end_ f.p = f.p.body:=by unfold OV; rw [if_pos hg]
   have hpos:=hgc.2 hg.1
   have e1:DW d (L',⟨true,false,false,OV d.end_ f.p⟩) = DZ (Ai d L') 4 f.p.body:=by
    unfold DW
    rw [if_neg (show ¬ false = true by decide),if_neg (show ¬ false = true by decide),hb,if_pos hpos]
   rw [e1]
   refine ⟨hd.zN h2 k hkq hxx Np hg f.p.body hf.good.len,IY,⟨[_],rfl⟩,fun K => ?_⟩
   show Fe 4 (d.log ++ [Ci (Ai d L') 4 f.p.body]) K <+: _
   have bW:keyE (Ci (Ai d L') 4 f.p.body) = Cj d.end_:=IB hd h2 4 _
   by_cases hK:keyE (Ci (Ai d L') 4 f.p.body) = K
   ·rw [QB (show (Ci (Ai d L') 4 f.p.body).kind = 4 from rfl) hK]
    refine RX (hpr K) ?_
    obtain ⟨j,hj,Jc⟩:=hdata hg.1
    have hKK:K = Cj d.end_:=hK.symm.trans bW
    have zO:rZ K = (f.AB,f.p.mine,f.p.AB,f.p.yours):=by rw [hKK,haz.1,haz.2,hmz.1,hmz.2]; rfl
    rw [zO]
    have hexp:=hd.got h2
    rw [← hg.2,Jc,← hKK] at hexp
    have hjl:=(List.getElem?_eq_some_iff.1 hj).1
    have hl1:=VW 3 (X.sd (1 - s)).log (f.AB,f.p.mine,f.p.AB,f.p.yours)
    have hl2:=hoth.len
    have hl3:=VW 4 d.log K
    have hl4:=hd.len
    have hji:j = (Fe 4 d.log K).length:=jy (by omega) (by omega) hexp
    rw [← hji]
    exact hj
   ·rw [jv hK]; exact hpr K
  ·have hb:OV d.end_ f.p = []:=by unfold OV; rw [if_neg hg]
   have e1:DW d (L',⟨true,false,false,OV d.end_ f.p⟩) = Ai d L':=by
    unfold DW
    rw [if_neg (show ¬ false = true by decide),if_neg (show ¬ false = true by decide),hb,if_neg (by simp)]
   rw [e1]
   exact ⟨hd.signal h2 k hkq hxx Np hg,IY,⟨[],by simp [Ai]⟩,hpr⟩
theorem Ko {l:List Fl} {i:Nat} {f:Fl} (h:f ∈ l.eraseIdx i):f ∈ l:=List.mem_of_mem_eraseIdx h
theorem MX {X:Pr} {N:Nat} (h:Inv X N) (hN:N < 4294967295) {a:Act} (hb:LX X a = 0):Fz (Fv X a) (N + 1):=by
 obtain ⟨hk,hsd,hi⟩:=Gg hb
 unfold Fv
 have hside:a.kind < 6 → a.side.toNat < 2:=fun h => by have:=hsd h; omega
 split
 ·rename_i h1
  have hs:=hside (by omega)
  generalize a.side.toNat = s at *
  have hd:=h.p.side s hs
  have ho:=h.out s hs
  by_cases hE:EK (X.sd s).end_ = 0
  ·obtain ⟨h0,ht,hss,IY⟩:=XC ho hE
   have hl:=hd.leave (L':=DN (X.sd s).end_) (WT hd.fine) (by have:(DN (X.sd s).end_).phase = 1:=hss.phase; omega) hss.own (by have:(DN (X.sd s).end_).token = (X.sd s).end_.token + 1:=hss.token; omega)
    (fun _ => by have:(DN (X.sd s).end_).token = (X.sd s).end_.token + 1:=hss.token; omega) (.inr ⟨hss.AB.symm,by rw [hss.yours]; exact Int.le_refl _⟩) (fun _ => ⟨by rw [hss.expected,wR]; rfl,by rw [hss.base,wR]; rfl⟩)
   rw [if_neg (by omega)] at hl
   exact h.p.Nl hs hl (Nat.le_succ _) IY ⟨[],by simp [Ai]⟩ (h.p.pref s hs)
  ·rw [bK hE,O9,set_self]; exact h.p.more (Nat.le_succ _)
 split
 ·rename_i h1
  have hs:=hside (by omega)
  generalize a.side.toNat = s at *
  have hd:=h.p.side s hs
  have hl:=hd.leave (L':=Aa (X.sd s).end_) (Ou hd.fine) (show (0:Int) ≠ 2 by decide) rfl (Int.le_refl _) (fun hx => absurd (show (0:Int) = 1 from hx) (by decide)) (.inr ⟨rfl,Int.le_refl _⟩) (fun hx => absurd (show (0:Int) = 1 from hx) (by decide))
  have IY:Cf (Aa (X.sd s).end_):=EG (h.out s hs)
  unfold GI
  by_cases h2:(X.sd s).end_.phase = 2
  ·rw [if_pos h2] at hl ⊢
   exact h.p.Nl hs hl (Nat.le_succ _) IY ⟨[_],rfl⟩ (QC h.p hs rfl (show (2:Int) ≠ 4 by decide))
  ·rw [if_neg h2] at hl ⊢
   exact h.p.Nl hs hl (Nat.le_succ _) IY ⟨[],by simp [Ai]⟩ (h.p.pref s hs)
 split
 ·rename_i h1
  have hs:=hside (by omega)
  generalize a.side.toNat = s at *
  have hd:=h.p.side s hs
  unfold GH
  by_cases hE:Bq (X.sd s).end_ a.body.length = 0
  ·rw [if_pos hE]
   obtain ⟨h2,_,hbl,_,hss,IY⟩:=O6 hd.fine.ok (h.out s hs) a.body hE
   exact h.p.Nl hs (hd.send h2 a.body hss (UG hd.fine a.body) hbl) (Nat.le_succ _) IY ⟨[_],rfl⟩ (QC h.p hs rfl (show (3:Int) ≠ 4 by decide))
  ·rw [if_neg hE,bM hE,O9,set_self]; exact h.p.more (Nat.le_succ _)
 split
 ·rename_i h1
  have hs:=hside (by omega)
  generalize a.side.toNat = s at *
  have hd:=h.p.side s hs
  obtain ⟨hss,IY⟩:=XB hd.fine.ok (h.out s hs) hd.fine.Ii
  exact h.p.Nl hs ((hd.same (d':=Ai (X.sd s) (Dz (X.sd s).end_)) rfl rfl rfl hss (WV hd.fine)).more (Nat.le_succ _)) (Nat.le_succ _) IY ⟨[],by simp [Ai]⟩ (h.p.pref s hs)
 split
 ·rename_i h1
  have hs:=hside (by omega)
  generalize a.side.toNat = s at *
  have hd:=h.p.side s hs
  by_cases hm:(X.sd s).AB = 4294967295
  ·have e1:C9 (X.sd s) = X.sd s:=if_pos hm
   rw [e1,set_self]; exact h.p.more (Nat.le_succ _)
  ·have hr:=hd.kC hm
   have e1:C9 (X.sd s) = { X.sd s with AB:=(X.sd s).AB + 1,end_:=newL ((X.sd s).AB + 1),log:=(X.sd s).log ++ [⟨5,(X.sd s).AB + 1,0,0,0,[]⟩] }:=if_neg hm
   have Yl:(C9 (X.sd s)).log = (X.sd s).log ++ [⟨5,(X.sd s).AB + 1,0,0,0,[]⟩]:=by rw [e1]
   exact h.p.Nl hs hr (Nat.le_succ _) (by rw [e1]; exact EG rfl) ⟨[_],Yl⟩ (QC h.p hs Yl (show (5:Int) ≠ 4 by decide))
 split
 ·rename_i h6
  obtain ⟨hi0,hil⟩:=hi (by omega)
  have hmem:X.way.getD a.i.toNat DI ∈ X.way:=by
   rw [List.getD_eq_getElem?_getD,List.getElem?_eq_getElem hil]
   exact List.getElem_mem hil
  have hf:=h.p.fl _ hmem
  unfold Gn
  generalize X.way.getD a.i.toNat DI = f at *
  obtain ⟨t1,t2,t3,t4⟩:=Yo h hN hf
  have h1:Fz ({ X with way:=X.way.eraseIdx a.i.toNat }:Pr) N:=h.p.ways (fun g hg => h.p.fl g (Ko hg)) (Nat.le_trans (List.length_eraseIdx_le _ _) h.p.way)
  exact h1.Nl (by have:=hf.dst; omega) t1 (Nat.le_succ _) t2 t3 t4
 split
 ·exact (h.p.ways (fun g hg => h.p.fl g (Ko hg)) (Nat.le_trans (List.length_eraseIdx_le _ _) h.p.way)).more (Nat.le_succ _)
 ·obtain ⟨hi0,hil⟩:=hi (by omega)
  have hmem:X.way.getD a.i.toNat DI ∈ X.way:=by
   rw [List.getD_eq_getElem?_getD,List.getElem?_eq_getElem hil]
   exact List.getElem_mem hil
  exact (h.p.put (h.p.fl _ hmem)).more (Nat.le_succ _)
theorem J8 {X:Pr} {N:Nat} (h:Inv X N) (hN:N < 4294967295) (a:Act):Inv (P8 X a) (N + 1):=by
 unfold P8
 split
 ·rename_i hb
  have h1:=((MX h hN hb).pump (s:=0) (by decide)).pump (s:=1) (by decide)
  refine ⟨h1,fun s hs => ?_⟩
  have h0:s = 0 ∨ s = 1:=by omega
  rcases h0 with rfl | rfl
  ·rw [IZ,if_neg (by decide),IZ,if_pos rfl]; rfl
  ·rw [IZ,if_pos rfl]; rfl
 ·exact ⟨h.p.more (Nat.le_succ _),h.out⟩
theorem Kq:Inv Ip 0:=by
 have hf:(newL 1).Fine:=Q9 (by decide)
 refine ⟨⟨fun s hs => ⟨hf,rfl,fun h2 => absurd (show (0:Int) = 2 from h2) (by decide),Nat.le_refl _,⟨false,(1,0,0,0),⟨rfl,rfl,rfl,Int.le_refl _,Int.le_refl _,fun h1 => absurd (show (0:Int) = 1 from h1) (by decide),.inr ⟨rfl,Int.le_refl _⟩,fun h2 => absurd (show (0:Int) = 2 from h2) (by decide)⟩⟩,fun e he => (by cases he),
  fun h1 => absurd (show (0:Int) = 1 from h1) (by decide),fun h2 => absurd (show (0:Int) = 2 from h2) (by decide),fun h2 => absurd (show (0:Int) = 2 from h2) (by decide),fun e he => (by cases he)⟩,fun s hs p hp => (by cases hp),Nat.zero_le _,fun f hf => (by cases hf),fun s hs K => ⟨[],rfl⟩⟩,fun s hs => rfl⟩
theorem VX (l:List Act):∀ {X:Pr} {N:Nat},Inv X N → N + l.length < 4294967295 → Inv (LY X l) (N + l.length):=by
 induction l with
 | nil => exact fun h _ => h
 | cons a l ih =>
  intro X N h hN
  have:=ih (J8 h (by simp at hN; omega) a) (by simp at hN ⊢; omega)
  rw [show N + 1 + l.length = N + (a :: l).length by simp; omega] at this
  exact this
theorem RY {L:Lk} (h:L.out.length < 1024) (p:Bz):(emit_ L p).out = L.out ++ [p]:=by unfold emit_; rw [if_pos h]
theorem Gh (L:Lk) (p:Bz):(emit_ L p).idle = L.idle:=by unfold emit_; split <;> rfl
theorem Yp:∀ (r n k:Nat) (L:Lk),L.sent = (k:Int) → k + r = min 8 L.queue.length → r < n → L.out.length + r ≤ 1000 →
  (Dq n L).sent = ((k + r:Nat):Int) ∧ (Dq n L).out = L.out ++ (List.range' k r).map (fun i:Nat => Dp L (i:Int)) ∧ ((Dq n L).idle = L.idle ∨ (Dq n L).idle = 0):=by
 intro r
 induction r with
 | zero =>
  intro n k L hs hm hn ho
  have e:Dq n L = L:=by
   cases n with
   | zero => rfl
   | succ n =>
    unfold Dq
    exact if_neg (fun hc => by have h1:=hc.1; have h2:=hc.2; rw [hs] at h1 h2; omega)
  rw [e]
  exact ⟨hs,by simp,.inl rfl⟩
 | succ r ih =>
  intro n k L hs hm hn ho
  cases n with
  | zero => omega
  | succ n =>
   unfold Dq
   rw [if_pos ⟨by rw [hs]; omega,by rw [hs]; omega⟩]
   have hS:=FC L
   have ho1:(Bj L).out = L.out ++ [Dp L (k:Int)]:=by
    unfold Bj
    rw [RY (show ({ L with idle:=if L.sent = 0 then 0 else L.idle,sent:=L.sent + 1 }:Lk).out.length < 1024 by show L.out.length < 1024; omega)]
    show L.out ++ [Dp L L.sent] = _
    rw [hs]
   have hi1:(Bj L).idle = if L.sent = 0 then 0 else L.idle:=by unfold Bj; rw [Gh]
   obtain ⟨a,b,c⟩:=ih n (k + 1) (Bj L) (by rw [Di,hs]; omega) (by rw [hS.queue]; omega) (by omega) (by rw [ho1]; simp only [List.length_append,List.length_singleton]; omega)
   refine ⟨by rw [a]; omega,?_,?_⟩
   ·rw [b,ho1,List.range'_succ,List.map_cons,List.append_assoc]
    congr 1
    rw [List.singleton_append]
    congr 1
    exact List.map_congr_left (fun i _ => H6 hS _)
   ·rcases c with c | c
    ·rw [c,hi1]
     split
     ·exact .inr rfl
     ·exact .inl rfl
    ·exact .inr c
theorem fill_eq {L:Lk} {k:Nat} (hs:L.sent = (k:Int)) (hk:k ≤ min 8 L.queue.length) (ho:L.out = []) :
  (BL L).sent = ((min 8 L.queue.length:Nat):Int) ∧ (BL L).out = (List.range' k (min 8 L.queue.length - k)).map (fun i:Nat => Dp L (i:Int)) ∧ ((BL L).idle = L.idle ∨ (BL L).idle = 0):=by
 unfold BL
 obtain ⟨a,b,c⟩:=Yp (min 8 L.queue.length - k) ((8 - L.sent).toNat + 1) k L hs (by omega) (by rw [hs]; omega) (by rw [ho]; simp only [List.length_nil]; omega)
 refine ⟨by rw [a]; omega,by rw [b,ho,List.nil_append],c⟩
theorem Nq (n:Nat) (L:Lk):(sends n L).sent = L.sent ∧ (sends n L).idle = L.idle:=by
 induction n with
 | zero => exact ⟨rfl,rfl⟩
 | succ n ih =>
  unfold sends
  exact ⟨(FQ _ _).trans ih.1,(Gh _ _).trans ih.2⟩
structure Wn (L:Lk):Prop where
 full:L.sent = ((min 8 L.queue.length:Nat):Int)
 idle:0 ≤ L.idle ∧ L.idle ≤ 2
theorem JU {L:Lk} (h:Wn L) (p:Bz):Wn (emit_ L p):=⟨by rw [FQ,(DR L p).queue]; exact h.full,by rw [Gh]; exact h.idle⟩
theorem IC {L:Lk} (hq:L.queue = []) (hs:L.sent = 0) (hi:0 ≤ L.idle ∧ L.idle ≤ 2):Wn L:=⟨by rw [hq,hs]; rfl,hi⟩
theorem bZ {L:Lk} (h:Wn L):Wn (Dz L):=by
 have hi:=h.idle
 unfold Dz
 split
 ·exact h
 split
 ·exact ⟨h.full,by show 0 ≤ (0:Int) ∧ (0:Int) ≤ 2; decide⟩
 split
 ·exact ⟨h.full,by show 0 ≤ L.idle + 1 ∧ L.idle + 1 ≤ 2; omega⟩
 split
 ·exact JU (L:=Bv L 0) ⟨h.full,by show 0 ≤ (0:Int) ∧ (0:Int) ≤ 2; decide⟩ _
 ·refine ⟨?_,?_⟩
  ·rw [(Nq _ _).1,(J6 _ _).queue]; exact h.full
  ·rw [(Nq _ _).2]; show 0 ≤ (0:Int) ∧ (0:Int) ≤ 2; decide
theorem bg {L:Lk} (h:Wn L) (ho:L.out = []) (body:List Int):Wn (Be L body):=by
 unfold Be
 split
 ·have hf:=h.full
  obtain ⟨a,_,c⟩:=fill_eq (L:={ L with queue:=L.queue ++ [body] }) (k:=min 8 L.queue.length) hf (by show _ ≤ min 8 (L.queue ++ [body]).length; rw [List.length_append]; omega) ho
  have hS:=H9 { L with queue:=L.queue ++ [body] }
  have hi:=h.idle
  refine ⟨by rw [a,hS.queue],?_⟩
  rcases c with c | c
  ·rw [c]; exact hi
  ·rw [c]; decide
 ·exact h
def rq (L:Lk):Nat:=L.queue.length - 8
theorem kD {L:Lk} (h:Wn L) (ho:L.out = []) (p:Bz) {k:Nat} (hk:k = 0 ∨ 1 ≤ k ∧ (k:Int) ≤ L.sent ∧ k = Gu L p) (hx:Same (jr L p k) (KC L p)) :
  Wn (KC L p) ∧ ∃ l:List Nat,(KC L p).out = l.map (fun i:Nat => Dp (KC L p) (i:Int)) ++ (if p.kind = 2 then [Hy (KC L p)] else []) ∧ l.length + rq (KC L p) = rq L ∧
   l = List.range' (min 8 L.queue.length - k) (min 8 (L.queue.length - k) - (min 8 L.queue.length - k)) ∧ ((KC L p).idle = L.idle ∨ (KC L p).idle = 0) ∧ (k ≠ 0 → (KC L p).idle = 0):=by
 have hf:=h.full
 have hsn:=O7 L p
 have hq:(KC L p).queue = L.queue.drop k:=hx.queue
 have hkq:k ≤ min 8 L.queue.length:=by omega
 have ru:∀ m:Nat,m = min 8 (L.queue.length - k) - (min 8 L.queue.length - k) → m + rq (KC L p) = rq L:=fun m hm => by
  unfold rq; rw [hq,List.length_drop]; omega
 have hN:∃ l:List Nat,l = List.range' (min 8 L.queue.length - k) (min 8 (L.queue.length - k) - (min 8 L.queue.length - k)) ∧ (Je L p).out = l.map (fun i:Nat => Dp (Je L p) (i:Int)) ∧ (Je L p).sent = ((min 8 (L.queue.length - k):Nat):Int) ∧ ((Je L p).idle = L.idle ∨ (Je L p).idle = 0) ∧ (k ≠ 0 → (Je L p).idle = 0) ∧ (Je L p).queue = L.queue.drop k:=by
  have bn:(Je L p).queue = L.queue.drop k:=by
   have hxx:=hx.queue
   unfold KC at hq
   split at hq
   ·rw [(DR _ _).queue] at hq; exact hq
   ·exact hq
  unfold Je at bn ⊢
  by_cases hc:1 ≤ Gu L p ∧ (Gu L p:Int) ≤ L.sent
  ·rw [if_pos hc] at bn ⊢
   have hka:Gu L p = k:=by
    have hS:=H9 (CZ (FU L p) (Gu L p))
    rcases hk with hk | hk
    ·exfalso
     rw [hk,List.drop_zero,hS.queue] at bn
     have:(L.queue.drop (Gu L p)).length = L.queue.length:=by
      have e:(CZ (FU L p) (Gu L p)).queue = L.queue.drop (Gu L p):=by show (FU L p).queue.drop _ = _; rw [JS]
      rw [e] at bn; rw [bn]
     rw [List.length_drop] at this
     omega
    ·exact hk.2.2.symm
   rw [hka]
   have hS:=H9 (CZ (FU L p) k)
   have aA:(CZ (FU L p) k).queue.length = L.queue.length - k:=by show ((FU L p).queue.drop k).length = _; rw [JS,List.length_drop]
   have hst:(CZ (FU L p) k).sent = ((min 8 L.queue.length - k:Nat):Int):=by show (FU L p).sent - (k:Int) = _; rw [hsn,hf]; omega
   obtain ⟨a,b,c⟩:=fill_eq (L:=CZ (FU L p) k) (k:=min 8 L.queue.length - k) hst (by rw [aA]; omega) (by show (FU L p).out = []; rw [MW]; exact ho)
   rw [aA] at a b
   refine ⟨_,rfl,?_,a,.inr ?_,fun _ => ?_,?_⟩
   ·rw [b]; exact List.map_congr_left (fun i _ => (H6 hS _).symm)
   ·rcases c with c | c
    ·rw [c]; rfl
    ·exact c
   ·rcases c with c | c
    ·rw [c]; rfl
    ·exact c
   ·rw [hka] at bn; exact bn
  ·rw [if_neg hc] at bn ⊢
   have hk0:k = 0:=by
    rcases hk with hk | hk
    ·exact hk
    ·rw [← hk.2.2] at hc; exact absurd ⟨hk.1,hk.2.1⟩ hc
   subst hk0
   refine ⟨_,rfl,?_,?_,.inl ?_,fun hx => absurd rfl hx,bn⟩
   ·rw [MW,ho]
    rw [show min 8 (L.queue.length - 0) - (min 8 L.queue.length - 0) = 0 by omega]; rfl
   ·rw [hsn,hf]; rfl
   ·unfold FU; split <;> rfl
 obtain ⟨l,hl,h1,h2,h3,h4,h5⟩:=hN
 have hlen:l.length = min 8 (L.queue.length - k) - (min 8 L.queue.length - k):=by rw [hl]; simp
 have hll:l.length ≤ 8:=by omega
 have hq2:(KC L p).queue.length = L.queue.length - k:=by rw [hq,List.length_drop]
 unfold KC at hq2 ⊢
 by_cases hk2:p.kind = 2
 ·rw [if_pos hk2] at hq2
  rw [if_pos hk2,if_pos hk2]
  have hS:=DR (Je L p) (Hy (Je L p))
  refine ⟨⟨?_,?_⟩,l,?_,?_,hl,?_,?_⟩
  ·rw [FQ,h2,hS.queue,h5,List.length_drop]
  ·rw [Gh]; have:=h.idle; rcases h3 with h3 | h3 <;> rw [h3] <;> omega
  ·rw [RY (by rw [h1,List.length_map]; omega),h1,RQ hS]
   congr 1
   exact List.map_congr_left (fun i _ => (H6 hS _).symm)
  ·have:=ru l.length hlen; unfold KC at this; rw [if_pos hk2] at this; exact this
  ·rw [Gh]; exact h3
  ·rw [Gh]; exact h4
 ·rw [if_neg hk2] at hq2
  rw [if_neg hk2,if_neg hk2]
  refine ⟨⟨?_,?_⟩,l,?_,?_,hl,h3,h4⟩
  ·rw [h2,h5,List.length_drop]
  ·have:=h.idle; rcases h3 with h3 | h3 <;> rw [h3] <;> omega
  ·rw [h1,List.append_nil]
  ·have:=ru l.length hlen; unfold KC at this; rw [if_neg hk2] at this; exact this
end Go.Proofs.Ytnkkgofpifhoeaa.Pr
end
section
namespace Go.Proofs.Ytnkkgofpifhoeaa.Rf
open Go.RowKit Go.Proofs.Ytnkkgofpifhoeaa.Base Go.Proofs.Ytnkkgofpifhoeaa.Steps Go.Proofs.Ytnkkgofpifhoeaa.Lk Go.Proofs.YtnkkgofpifhoeaaW.PrintWords Go.Proofs.YtnkkgofpifhoeaaW.PrintLast
theorem JV:(Try.prog.info? 22).map (fun i => (i.zero,i.size,i.bytes)) = some (some (.slice none 0 0),1,24):=by kernel_rfl
theorem LZ:(Try.prog.info? 5).map (fun i => (i.zero,i.size,i.bytes)) = some (some (.int .u8 0),1,1):=by kernel_rfl
theorem Yq {L:Lk} (hw:Pr.Wn L) (b:List Int):BL { L with queue:=L.queue ++ [b] } = if L.sent < 8 then Bj { L with queue:=L.queue ++ [b] } else { L with queue:=L.queue ++ [b] }:=by
 have hf:=hw.full
 unfold BL
 by_cases h8:L.sent < 8
 ·rw [if_pos h8]
  have e:(8 - ({ L with queue:=L.queue ++ [b] }:Lk).sent).toNat + 1 = ((8 - L.sent).toNat - 1 + 1) + 1:=by show (8 - L.sent).toNat + 1 = _; omega
  rw [e]
  unfold Dq
  rw [if_pos ⟨by show L.sent < ((L.queue ++ [b]).length:Int); rw [List.length_append]; simp only [List.length_singleton]; omega,h8⟩]
  unfold Dq
  rw [if_neg]
  rintro ⟨h1,h2⟩
  rw [Pr.Di] at h1 h2
  have hq:(Bj { L with queue:=L.queue ++ [b] }).queue = L.queue ++ [b]:=(Pr.FC _).queue
  rw [hq,List.length_append] at h1
  simp only [List.length_singleton] at h1
  have h1':L.sent + 1 < ((L.queue.length + 1:Nat):Int):=h1
  have h2':L.sent + 1 < 8:=h2
  omega
 ·rw [if_neg h8]
  have e:(8 - ({ L with queue:=L.queue ++ [b] }:Lk).sent).toNat + 1 = 0 + 1:=by show (8 - L.sent).toNat + 1 = _; omega
  rw [e]
  unfold Dq
  rw [if_neg (fun h => h8 h.2)]
theorem QD {S:Nat → Prop} {w w0 w2 w4 w5 w6:World} (hS:∀ k,S k → k < w.heap.size) {q:List (List Int)} {body:List Int} {rows:List (List Value)} {nb nq:Nat} (hq:q.length = nq) (hrl:rows.length = nq) (hnb:body.length = nb)
  (hK:∀ (i:Nat) (x:List Int) (r:List Value),q[i]? = some x → rows[i]? = some r → YU.At S w x r) (hW0:Below w.heap.size w w0) (hz:w.heap.size + 2 ≤ w0.heap.size) (hB2:Below w0.heap.size w0 w2)
  {ok2:Nat → Prop} {v2:Value} (hR2:(Dc 1).R 22 w2 w0.heap.size ok2 v2 rows) {ok4:Nat → Prop} {A4:Option Addr} {c4:Nat} (hB4:Below w2.heap.size w2 w4) (Ji:(Kd.int .u8).R 5 w4 w2.heap.size ok4 (.slice A4 nb c4) body) (Nb:Below w4.heap.size w4 w5) (Nc:w5.grownBy w6 v2.ownBlock) (MH:Below w0.heap.size w0 w6)
  {ok6:Nat → Prop} {A6:Option Addr} {n6 c6:Nat} (LM:(Dc 1).R 22 w6 w0.heap.size ok6 (.slice A6 n6 c6) (rows ++ [[.slice A4 nb c4]])):YU.L (plus S w 2) w6 A6 (nq + 1) (q ++ [body]) ∧ nq + 1 ≤ c6:=by
 obtain ⟨oG,GY,hC6⟩:=Kd.Bi LM
 obtain ⟨hn4,hl4,hC4⟩:=Kd.Bi Ji
 have hb6:=(Kd.Du LM).1
 have hb4:=(Kd.Du Ji).1
 have hb2:=(Kd.Du hR2).1
 have hs2:=hB2.size
 have hs4:=hB4.size
 have hs5:=Nb.size
 have hne:n6 = (q ++ [body]).length:=by rw [oG]; simp [hq,hrl]
 have hne2:n6 = nq + 1:=by rw [oG]; simp [hrl]
 have zQ:Below w.heap.size w w6:=hW0.trans (MH.mono hW0.size)
 subst hnb
 have hbody:Gl (fun k => k < w2.heap.size) w4 A4 body:=⟨hC4,fun h0 ad had hlt => by
  subst had
  exact absurd (hb4 ad.block rfl).2.1 (by omega)⟩
 have zS:Kept w4 w6 (fun k => k < w2.heap.size):=⟨Nat.le_trans hs5 Nc.size,fun i hi hn => (Nc.block i (by omega) (fun he => hn (show i < w2.heap.size from (hb2 i he.symm).2.2.1))).trans (Nb.block i (by omega))⟩
 refine ⟨?_,by omega⟩
 have h0:(q ++ [body]).length = nq + 1:=by simp [hq]
 rw [← h0]
 refine FK.L.snoc (d:=YU) (S:=plus S w 2) (w:=w) (W:=w6) (r:=[.slice A4 body.length c4]) (hrl.trans hq.symm) (fun i x r hx hr => YU.up FB (hK i x r hx hr)) (Kept.of_below zQ _) ?_ ?_ (fun ad had hx => ?_)
 ·refine ⟨A4,c4,rfl,hl4,(hbody.keep zS).1,fun h0 ad had hx => ?_⟩
  subst had
  have:=(hb4 ad.block rfl).2.1
  rcases hx with hx | hx
  ·have:=hS _ hx; have:=hW0.size; omega
  ·omega
 ·exact hC6
 ·subst had
  have:=(hb6 ad.block rfl).2.1
  rcases hx with hx | hx
  ·have:=hS _ hx; have:=hW0.size; omega
  ·omega
theorem Nr {S:Nat → Prop} {w:World} (hS:∀ k,S k → k < w.heap.size) {L:Lk} {body:List Int} {i nq no:Nat} (hok:({ L with queue:=L.queue ++ [body] }:Lk).Ok) (DT:L.phase = 2) (hi:L.sent = i) (h8:L.sent < 8) (hiq:i < nq + 1) (hQN:(L.queue ++ [body]).length = nq + 1) (hno:L.out.length = no) (I:Int) (hI:(if L.sent = 0 then 0 else L.idle) = I)
  {nx:Int} {W:World} {A6:Option Addr} {c6:Nat} {Ao:Option Addr} {co:Nat} (hz:w.heap.size + 2 ≤ W.heap.size) (hR:RE (plus S w 2) W { L with queue:=L.queue ++ [body] } nx A6 c6 Ao co) :
  Calls Try.prog 118 #[.agg #[.int .u32 L.own,.int .i64 L.phase,.int .u32 L.token,.int .u32 L.AB,.int .u32 L.yours,.bool L.known,.slice A6 (nq + 1) c6,.int .i64 (L.sent + 1),.int .u32 nx,.int .u32 L.expected,.int .i64 I,.slice Ao no co],.int .i64 L.sent] W fun e w' => (∃ v,e = .returned v ∧ RV (plus S w 2) w' (Bj { L with queue:=L.queue ++ [body] }) v) ∧ Below W.heap.size W w':=by
 have hs:=hok.sent
 have hd:=hok.idle
 have hI2:0 ≤ I ∧ I ≤ 1000:=by
  rw [← hI]
  split
  ·decide
  ·exact hd
 have hok1:({ L with queue:=L.queue ++ [body],sent:=L.sent + 1,idle:=I }:Lk).Ok:=⟨hok.own,hok.phase,hok.token,hok.AB,hok.yours,hok.queue,hok.rows,⟨by show 0 ≤ L.sent + 1; have:0 ≤ L.sent:=hs.1; omega,by show L.sent + 1 ≤ ((L.queue ++ [body]).length:Int); rw [hQN]; omega,by show L.sent + 1 ≤ 8; omega⟩,hok.base,hok.expected,hI2,hok.out⟩
 have e4:Dp { L with queue:=L.queue ++ [body] } ({ L with queue:=L.queue ++ [body] }:Lk).sent = Dp { L with queue:=L.queue ++ [body],sent:=L.sent + 1,idle:=I } (i:Int):=by
  rw [show ({ L with queue:=L.queue ++ [body] }:Lk).sent = (i:Int) from hi]; rfl
 have e3:Bj { L with queue:=L.queue ++ [body] } = emit_ { L with queue:=L.queue ++ [body],sent:=L.sent + 1,idle:=I } (Dp { L with queue:=L.queue ++ [body],sent:=L.sent + 1,idle:=I } (i:Int)):=by
  unfold Bj
  rw [e4]
  show emit_ { L with queue:=L.queue ++ [body],sent:=L.sent + 1,idle:=if L.sent = 0 then 0 else L.idle } _ = _
  rw [hI]
 rw [e3,← hi]
 have h:=Yb (S:=plus S w 2) (JR hS hz) (L:={ L with queue:=L.queue ++ [body],sent:=L.sent + 1,idle:=I }) hok1 (by show L.phase ≠ 0; omega) (nx:=nx) (Aq:=A6) (cq:=c6) (Ao:=Ao) (co:=co) ⟨hR.q,hR.qc,hR.o,hR.nx⟩ i (by show i < (L.queue ++ [body]).length; omega)
 rw [show ({ L with queue:=L.queue ++ [body],sent:=L.sent + 1,idle:=I }:Lk).queue.length = nq + 1 from hQN,show ({ L with queue:=L.queue ++ [body],sent:=L.sent + 1,idle:=I }:Lk).out.length = no from hno,← hi] at h
 exact h
end Go.Proofs.Ytnkkgofpifhoeaa.Rf
end
section
namespace Go.Proofs.YtnkkgofpifhoeaaW.PrintWords
theorem CV.one {α:Type} {R:α → List Value → Prop} {ps:List α} {cs:List Value} {p:α} {v:Value} (hp:R p [v]) (h:CV R 1 ps cs):CV R 1 (p :: ps) (v :: cs):=by
 refine ⟨by simp [h.1],fun j q hq => ?_⟩
 cases j with
 | zero =>
  simp only [List.getElem?_cons_zero,Option.some.injEq] at hq
  subst hq
  simpa using hp
 | succ j =>
  simp only [List.getElem?_cons_succ] at hq
  have h1:=h.2 j q hq
  simpa [Nat.mul_one] using h1
end Go.Proofs.YtnkkgofpifhoeaaW.PrintWords
end
section
namespace Go.Proofs.Ytnkkgofpifhoeaa.Rf
open Go.RowKit Go.Proofs.Ytnkkgofpifhoeaa.Base Go.Proofs.Ytnkkgofpifhoeaa.Steps Go.Proofs.Ytnkkgofpifhoeaa.Lk Go.Proofs.YtnkkgofpifhoeaaW.PrintWords Go.Proofs.YtnkkgofpifhoeaaW.PrintLast
theorem Z36 {p:Prop} (h:p:=by
 have Dt:=run_loadVar_row (P:=Try.prog) wz (w.heap.size + 1) 78 78 _ (0,0) _ aJ.out Try.underlying78 rfl (by kernel_rfl)
 have hbl:Below w.heap.size w wz:=Kr.out.below fM.out (by omega)
 refine bodyPost_ret (v:=_) (Az Try.results88 _ _ rfl rfl Dt) rfl ?_
 exact ⟨⟨_,rfl,Ed,A7,c7,A8,c8,rfl,(fO.out.keep (AP Kr.out (CE (by decide)))).up IV⟩,hbl⟩):p:=h
theorem Yr {S:Nat → Prop} {w:World} (hS:∀ k,S k → k < w.heap.size) {L:Lk} (hok:L.Ok) (hw:Pr.Wn L) {nx:Int} {Aq:Option Addr} {cq:Nat} {Ao:Option Addr} {co:Nat} (h:RE S w L nx Aq cq Ao co) (body:List Int) (nb:Nat) (hnb:body.length = nb) {Ab:Option Addr} {cb:Nat} (hbd:Gl S w Ab body)
  (h2:L.phase = 2) (hq0:(L.phase != 2) = false) (h0:¬ nb = 0) (hq1:decide ((nb:Int) < 1) = false) (hq2:¬ (nb:Int) < 1) (h1:¬ 1000 < nb) (hq3:decide ((nb:Int) > 1000) = false) (hq4:¬ (nb:Int) > 1000) (Wh:L.queue.length ≤ 64) (h6:¬ 64 ≤ L.queue.length) (hq5:((L.queue.length:Int) == 64) = false) :
  Calls Try.prog 88 #[EV L nx Aq L.queue.length cq Ao L.out.length co,.slice Ab nb cb] w fun e w' => (∃ v,e = .returned (.tuple #[v,.int .i64 (Bq L nb)]) ∧ RV S w' (Be L body) v) ∧ Below w.heap.size w w':=by
 have e1:Bq L nb = 0:=by unfold Bq; rw [if_pos h2,if_neg (by omega),if_neg h6]
 have e2:Be L body = if L.sent < 8 then Bj { L with queue:=L.queue ++ [body] } else { L with queue:=L.queue ++ [body] }:=by
  unfold Be; rw [hnb,if_pos e1]; exact Yq hw body
 have hnx:=h.nx (by omega)
 have hfull:=hw.full
 have ry:=NR hok (body:=body) (by omega) (by omega)
 obtain ⟨Jr,hRQ,zT,sD,sF⟩:=h.q
 have oH:=Lib.hid (show (Dc 1).C w Aq L.queue.length Jr from hRQ)
 have kE:=Lib.hid sF
 have QE:=Lib.hid sD
 have S9:=Lib.hid (show (L.queue ++ [body]).length = L.queue.length + 1 from by simp)
 have kF:=Lib.hid (show (nx + 1) % 4294967296 = IntKind.u32.wrap (L.base + ((L.queue ++ [body]).length:Nat)) from by rw [S9.out,hnx]; simp only [FZ]; omega)
 rw [e1,e2]
 have HE:=Lib.hid h
 have HS:=Lib.hid hS
 have Jf:=Lib.hid ry
 have BB:=Lib.hid hbd
 have HFU:=Lib.hid hfull
 have H2:=Lib.hid h2
 have HQ6:=Lib.hid h6
 have fP:=Lib.hid (show nb ≤ 1000 from by omega)
 have HSB:=hok.sent
 clear h hS ry hok hnx hbd hfull h2 h6 e1 e2 hRQ zT sD sF hw
 unfold EV
 generalize hnq:L.queue.length = nq at *
 generalize hno:L.out.length = no at *
 have LP:=Lib.hid hnq
 have KD:=Lib.hid hno
 have Ez:=Lib.hid hnb
 have XI:=Lib.hid (show nq < 64 from by have:=HQ6.out; omega)
 clear hnq hno hnb Wh
 have Df:=Try.underlying78
 by_cases h8:L.sent < 8
 rotate_left
 ·rw [if_neg h8]
  have hq8:decide (L.sent < 8) = false:=by simp [h8]
  go_enter Try.func88,Try.ntmps88
  go_wp2_with (first | ((with_reducible refine AO (N:=24) rfl ?_); ((obtain ⟨w0,hw0⟩:∃ w0,w0 = (w.alloc (.cells #[.int .u32 L.own,.int .i64 L.phase,.int .u32 L.token,.int .u32 L.AB,.int .u32 L.yours,.bool L.known,.slice Aq nq cq,.int .i64 L.sent,.int .u32 nx,.int .u32 L.expected,.int .i64 L.idle,.slice Ao no co] 78)).alloc (.cells #[.int .u32 0,.int .i64 0,.int .u32 0,.int .u32 0,.int .u32 0,.bool false,.slice none 0 0,.int .i64 0,.int .u32 0,.int .u32 0,.int .i64 0,.slice none 0 0] 78):=⟨_,rfl⟩); (rw [← hw0]); (have HW0:=Lib.hid (show Below w.heap.size w w0 from hw0 ▸ Io w _ _)); (have HX0:=Lib.hid (show w0.heap[w.heap.size]? = some (.cells #[.int .u32 L.own,.int .i64 L.phase,.int .u32 L.token,.int .u32 L.AB,.int .u32 L.yours,.bool L.known,.slice Aq nq cq,.int .i64 L.sent,.int .u32 nx,.int .u32 L.expected,.int .i64 L.idle,.slice Ao no co] 78 (0,0)) from hw0 ▸ Jq w _ _)); (have HZ0:=Lib.hid (show w0.heap[w.heap.size + 1]? = some (.cells #[.int .u32 0,.int .i64 0,.int .u32 0,.int .u32 0,.int .u32 0,.bool false,.slice none 0 0,.int .i64 0,.int .u32 0,.int .u32 0,.int .i64 0,.slice none 0 0] 78 (0,0)) from hw0 ▸ Ij w _ _)); (clear hw0); (have hsz0:=HW0.out.size); (have RZ:=AQ HZ0.out); (refine Kd.Iy (Dc 1) (w0:=w0) (W:=w0) w0.heap.size 22 rfl (N:=24) rfl (xs:=[]) (inner:=[]) (ok:=fun _ => True) (CY:=fun _ => False) (by first | (go_simp; done) | (go_simp; rfl)) (CV.none _ _) (fun _ hk => False.elim hk) trivial (Below.refl _ _) (Nat.le_refl _) (by decide) ?_); (intro v1 w1 hR1 hB1 hg1 ho1); (obtain ⟨A1,c1,hv1⟩:=Kd.Am hR1); (subst hv1); (have HR1:=Lib.hid hR1); (have HB1:=Lib.hid hB1); (clear hR1 hB1 hg1 ho1); (have J9:=Lib.hid ((HB1.out.block _ (by omega)).trans HX0.out)); (have hc6:w1.cell? ⟨w.heap.size,6,none⟩ = some (.slice Aq nq cq):=(AA J9.out 6).trans rfl))) | ((with_reducible refine AO (N:=27) rfl ?_); ((refine Kd.BN (Dc 1) (Rr:=fun x cs => cs = x ∧ x.length = 1 ∧ ∀ u ∈ x,u.oneCell' = true) (w0:=w0) (W:=w1) w0.heap.size rfl (.tmp 24) (.tmp 26) 45 22 (.slice none 0 0) 24 rfl Try.underlying45 JV rfl (by decide) (by decide) (.slice A1 ([]:List (List Value)).length c1) [] Jr Aq nq cq (fun _ => True) (fun _ => False) rfl rfl HR1.out (Kd.Cm oH.out (HW0.out.trans (HB1.out.mono hsz0))) (fun _ _ hx => hx) (fun _ hf => hf.elim) (fun _ _ => trivial) HB1.out HB1.out.size (by have:=XI.out; simp; omega) ?_); (intro v2 w2 hR2 hB2 _ _); (rw [List.nil_append] at hR2); (have HR2:=Lib.hid hR2); (have HB2:=Lib.hid hB2); (clear hR2 hB2); (have hsz2:=HB2.out.size))) | ((with_reducible refine AO (N:=28) rfl ?_); ((refine Kd.Iy (Kd.int .u8) (w0:=w2) (W:=w2) w2.heap.size 5 rfl (N:=28) rfl (xs:=([]:List Int)) (inner:=[]) (ok:=fun _ => True) (CY:=fun _ => False) (by first | (go_simp; done) | (go_simp; rfl)) (CV.none _ _) (fun _ hk => False.elim hk) trivial (Below.refl _ _) (Nat.le_refl _) (by decide) ?_); (intro v3 w3 FT hB3 _ _); (have HR3:=Lib.hid FT); (have HB3:=Lib.hid hB3); (clear FT hB3); (have hsz3:=HB3.out.size))) | ((with_reducible refine AO (N:=30) rfl ?_); ((refine Kd.Ew (h1:=fun _ => rfl) (Value.int .u8) 0 (w0:=w2) (W:=w3) w2.heap.size rfl (.tmp 28) (.tmp 29) 22 5 (.int .u8 0) 1 rfl Try.underlying22 LZ rfl (by decide) v3 [] body Ab nb cb (fun _ => True) rfl rfl (fun _ _ => trivial) HR3.out (Kd.Cm (Ez.out ▸ BB.out.1) (HW0.out.trans ((HB2.out.trans (HB3.out.mono hsz2)).mono hsz0))) HB3.out hsz3 (by have:=fP.out; simp only [List.length_nil]; omega) ?_); (intro v4 w4 Ji hB4 _ _); (obtain ⟨A4,c4,hv4⟩:=Kd.Am Ji); (rw [List.nil_append] at Ji hv4); (rw [Ez.out] at hv4); (subst hv4); (have HR4:=Lib.hid (show (Kd.int .u8).R 5 w4 w2.heap.size (fun _ => True) (.slice A4 nb c4) body from Ji)); (have HB4:=Lib.hid hB4); (clear Ji hB4 HR3 HB3); (have J4:=HB4.out.size))) | ((with_reducible refine AO (N:=31) rfl ?_); ((refine Kd.Iy (Dc 1) (w0:=w4) (W:=w4) w4.heap.size 22 rfl (N:=31) rfl (xs:=[[Value.slice A4 nb c4]]) (inner:=[.slice A4 nb c4]) (ok:=fun _ => True) (CY:=fun _ => False) (by first | (go_simp; done) | (go_simp; rfl)) (CV.one ⟨rfl,rfl,by simp [Value.oneCell']⟩ (CV.none _ _)) (fun _ hk => False.elim hk) trivial (Below.refl _ _) (Nat.le_refl _) (by simp) ?_); (intro v5 w5 fQ Nb _ _); (obtain ⟨A5,c5,hv5,_,fU⟩:=Kd.IG fQ); (subst hv5); (have Ns:=Lib.hid fU); (have FN:=Lib.hid Nb); (clear fQ fU Nb); (have hsz5:=FN.out.size); (have Nu:=Lib.hid (HB4.out.trans (FN.out.mono J4))))) | ((with_reducible refine AO (N:=32) rfl ?_); ((refine Kd.BN (Dc 1) (Rr:=fun x cs => cs = x ∧ x.length = 1 ∧ ∀ u ∈ x,u.oneCell' = true) (w0:=w0) (W:=w5) w0.heap.size rfl (.tmp 27) (.tmp 31) 45 22 (.slice none 0 0) 24 rfl Try.underlying45 JV rfl (by decide) (by decide) v2 Jr [[Value.slice A4 nb c4]] A5 1 c5 (fun _ => True) (fun _ => False) rfl rfl (Kd.Ee HR2.out Nu.out) Ns.out (fun _ _ hx => hx) (fun _ hf => hf.elim) (fun _ _ => trivial) (HB2.out.trans (Nu.out.mono hsz2)) (by omega) (by have h1:=XI.out; have h2:=QE.out; omega) ?_); (intro v6 w6 LM MH Nc _); (obtain ⟨A6,c6,hv6⟩:=Kd.Am LM); (rw [show (Jr ++ [[Value.slice A4 nb c4]]).length = nq + 1 from by rw [List.length_append,QE.out]; rfl] at hv6); (subst hv6); (have hQ:=QD HS.out LP.out QE.out Ez.out kE.out HW0.out RZ HB2.out HR2.out HB4.out HR4.out FN.out Nc MH LM); (have HQ:=Lib.hid hQ); (have IE:=Lib.hid MH); (clear hQ LM MH Nc Ns HR2 HR4 HB4 FN Nu HB1 HR1 oH); (have MI:=Lib.hid ((IE.out.block _ (by omega)).trans HX0.out)); (have Yt:=Lib.hid ((IE.out.block _ (by omega)).trans HZ0.out)); (have Kt:=Lib.hid (HW0.out.trans (IE.out.mono hsz0))); (have PD:=Lib.hid (show w.heap.size + 2 ≤ w6.heap.size from by have:=IE.out.size; omega)); (clear HX0 J9 HZ0 hsz0 RZ hsz2 hsz3 J4 hsz5 IE HB2); (have Nv:=Lib.hid (show RE (plus S w 2) w6 { L with queue:=L.queue ++ [body] } ((nx + 1) % 4294967296) A6 c6 Ao co from ⟨by rw [show ({ L with queue:=L.queue ++ [body] }:Lk).queue.length = nq + 1 from S9.out]; exact HQ.out.1,by rw [show ({ L with queue:=L.queue ++ [body] }:Lk).queue.length = nq + 1 from S9.out]; exact HQ.out.2,(HE.out.o.up (by decide) FB).below Kt.out,fun _ => kF.out⟩)); (clear HQ HW0))) | ((with_reducible refine gate_ (.store 45 (.tmp 33) (.tmp 32)) rfl ?_); (refine AU (fun wz => wz.heap[w.heap.size]? = some (.cells #[.int .u32 L.own,.int .i64 L.phase,.int .u32 L.token,.int .u32 L.AB,.int .u32 L.yours,.bool L.known,.slice A6 (nq + 1) c6,.int .i64 L.sent,.int .u32 nx,.int .u32 L.expected,.int .i64 L.idle,.slice Ao no co] 78 (0,0)) ∧ Steps.At (w.heap.size) w6 wz) rfl rfl ⟨_,(by have hz1:World.cell? w6 ⟨w.heap.size,6,none⟩ = some _:=(AA MI.out 6).trans rfl; have hz2:=AL MI.out 6; first | (go_simp; done) | (go_simp; rfl)),Af MI.out 6 _ rfl,Steps.At.set (Steps.At.refl _ _) _ _⟩ (fun w7 hF => ?_)); (have Iu:=Lib.hid hF.1); (have D9:=Lib.hid hF.2); (clear hF); (have Yu:=Lib.hid ((D9.out.block _ (by omega)).trans Yt.out)); (have La:=Lib.hid (D9.out.below Kt.out (Nat.le_refl _))); (have Nw:=Lib.hid (Nv.out.keep (AP D9.out (CE (i:=0) (by decide))))); (have UK:=Lib.hid (show w.heap.size + 2 ≤ w7.heap.size from by have h8:=D9.out.size; have h9:=PD.out; omega)); (clear Yt Kt Nv MI PD); (have Rh:w7.cell? ⟨w.heap.size,8,none⟩ = some (.int .u32 nx):=(AA Iu.out 8).trans rfl)) | ((with_reducible refine gate_ (.store 24 (.tmp 37) (.tmp 36)) rfl ?_); (refine AU (fun wz => wz.heap[w.heap.size]? = some (.cells #[.int .u32 L.own,.int .i64 L.phase,.int .u32 L.token,.int .u32 L.AB,.int .u32 L.yours,.bool L.known,.slice A6 (nq + 1) c6,.int .i64 L.sent,.int .u32 ((nx + 1) % 4294967296),.int .u32 L.expected,.int .i64 L.idle,.slice Ao no co] 78 (0,0)) ∧ Steps.At (w.heap.size) w7 wz) rfl rfl ⟨_,(by have hz1:World.cell? w7 ⟨w.heap.size,8,none⟩ = some _:=(AA Iu.out 8).trans rfl; have hz2:=AL Iu.out 8; first | (go_simp; done) | (go_simp; rfl)),Af Iu.out 8 _ rfl,Steps.At.set (Steps.At.refl _ _) _ _⟩ (fun w8 hF => ?_)); (have Hq:=Lib.hid hF.1); (have EC:=Lib.hid hF.2); (clear hF); (have aK:=Lib.hid ((EC.out.block _ (by omega)).trans Yu.out)); (have Og:=Lib.hid (EC.out.below La.out (Nat.le_refl _))); (have Oh:=Lib.hid (Nw.out.keep (AP EC.out (CE (i:=0) (by decide))))); (have Yv:=Lib.hid (show w.heap.size + 2 ≤ w8.heap.size from by have h8:=EC.out.size; have h9:=UK.out; omega)); (clear Yu La Nw Iu UK); (clear Rh); (have VY:w8.cell? ⟨w.heap.size,7,none⟩ = some (.int .i64 L.sent):=(AA Hq.out 7).trans rfl)) | ((with_reducible refine AO (N:=54) rfl ?_); ((refine wpList_load_row rfl 78 (.tmp 2) rfl (w.heap.size) (by rfl) 78 #[.int .u32 L.own,.int .i64 L.phase,.int .u32 L.token,.int .u32 L.AB,.int .u32 L.yours,.bool L.known,.slice A6 (nq + 1) c6,.int .i64 L.sent,.int .u32 ((nx + 1) % 4294967296),.int .u32 L.expected,.int .i64 L.idle,.slice Ao no co] (0,0) _ Hq.out Try.underlying78 rfl (by kernel_rfl) ?_))) | ((with_reducible refine gate_ (.store 78 (.tmp 4) (.tmp 54)) rfl ?_); (refine Ad rfl rfl 78 (.tmp 4) (.tmp 54) rfl (w.heap.size + 1) _ rfl rfl 78 _ aK.out (by kernel_rfl) rfl (by kernel_rfl) ?_); (intro wz hbX Ec); (have aJ:=Lib.hid hbX); (have Kr:=Lib.hid Ec); (clear hbX Ec)))
  have Dt:=run_loadVar_row (P:=Try.prog) wz (w.heap.size + 1) 78 78 _ (0,0) _ aJ.out Try.underlying78 rfl (by kernel_rfl)
  have hbl:Below w.heap.size w wz:=Kr.out.below Og.out (by omega)
  refine bodyPost_ret (v:=_) (Az Try.results88 _ _ rfl rfl Dt) rfl ?_
  refine ⟨⟨_,rfl,_,A6,c6,Ao,co,?_,(Oh.out.keep (AP Kr.out (CE (by decide)))).up IV⟩,hbl⟩
  rw [show ({ L with queue:=L.queue ++ [body] }:Lk).queue.length = nq + 1 from S9.out,show ({ L with queue:=L.queue ++ [body] }:Lk).out.length = no from KD.out]
  rfl
 rw [if_pos h8]
 have hq8:decide (L.sent < 8) = true:=by simp [h8]
 obtain ⟨i,hi⟩:∃ i:Nat,L.sent = i:=⟨L.sent.toNat,by omega⟩
 have HI:=Lib.hid hi
 have HIQ:=Lib.hid (show i < nq + 1 from by omega)
 clear hi
 by_cases hs0:L.sent = 0
 ·have hqs:(L.sent == 0) = true:=by simp [hs0]
  have zU:=Lib.hid (show (if L.sent = 0 then 0 else L.idle) = 0 from if_pos hs0)
  have rM:=Lib.hid hs0
  clear hs0
  go_enter Try.func88,Try.ntmps88
  go_wp2_with (first | ((with_reducible refine AO (N:=24) rfl ?_); ((obtain ⟨w0,hw0⟩:∃ w0,w0 = (w.alloc (.cells #[.int .u32 L.own,.int .i64 L.phase,.int .u32 L.token,.int .u32 L.AB,.int .u32 L.yours,.bool L.known,.slice Aq nq cq,.int .i64 L.sent,.int .u32 nx,.int .u32 L.expected,.int .i64 L.idle,.slice Ao no co] 78)).alloc (.cells #[.int .u32 0,.int .i64 0,.int .u32 0,.int .u32 0,.int .u32 0,.bool false,.slice none 0 0,.int .i64 0,.int .u32 0,.int .u32 0,.int .i64 0,.slice none 0 0] 78):=⟨_,rfl⟩); (rw [← hw0]); (have HW0:=Lib.hid (show Below w.heap.size w w0 from hw0 ▸ Io w _ _)); (have HX0:=Lib.hid (show w0.heap[w.heap.size]? = some (.cells #[.int .u32 L.own,.int .i64 L.phase,.int .u32 L.token,.int .u32 L.AB,.int .u32 L.yours,.bool L.known,.slice Aq nq cq,.int .i64 L.sent,.int .u32 nx,.int .u32 L.expected,.int .i64 L.idle,.slice Ao no co] 78 (0,0)) from hw0 ▸ Jq w _ _)); (have HZ0:=Lib.hid (show w0.heap[w.heap.size + 1]? = some (.cells #[.int .u32 0,.int .i64 0,.int .u32 0,.int .u32 0,.int .u32 0,.bool false,.slice none 0 0,.int .i64 0,.int .u32 0,.int .u32 0,.int .i64 0,.slice none 0 0] 78 (0,0)) from hw0 ▸ Ij w _ _)); (clear hw0); (have hsz0:=HW0.out.size); (have RZ:=AQ HZ0.out); (refine Kd.Iy (Dc 1) (w0:=w0) (W:=w0) w0.heap.size 22 rfl (N:=24) rfl (xs:=[]) (inner:=[]) (ok:=fun _ => True) (CY:=fun _ => False) (by first | (go_simp; done) | (go_simp; rfl)) (CV.none _ _) (fun _ hk => False.elim hk) trivial (Below.refl _ _) (Nat.le_refl _) (by decide) ?_); (intro v1 w1 hR1 hB1 hg1 ho1); (obtain ⟨A1,c1,hv1⟩:=Kd.Am hR1); (subst hv1); (have HR1:=Lib.hid hR1); (have HB1:=Lib.hid hB1); (clear hR1 hB1 hg1 ho1); (have J9:=Lib.hid ((HB1.out.block _ (by omega)).trans HX0.out)); (have hc6:w1.cell? ⟨w.heap.size,6,none⟩ = some (.slice Aq nq cq):=(AA J9.out 6).trans rfl))) | ((with_reducible refine AO (N:=27) rfl ?_); ((refine Kd.BN (Dc 1) (Rr:=fun x cs => cs = x ∧ x.length = 1 ∧ ∀ u ∈ x,u.oneCell' = true) (w0:=w0) (W:=w1) w0.heap.size rfl (.tmp 24) (.tmp 26) 45 22 (.slice none 0 0) 24 rfl Try.underlying45 JV rfl (by decide) (by decide) (.slice A1 ([]:List (List Value)).length c1) [] Jr Aq nq cq (fun _ => True) (fun _ => False) rfl rfl HR1.out (Kd.Cm oH.out (HW0.out.trans (HB1.out.mono hsz0))) (fun _ _ hx => hx) (fun _ hf => hf.elim) (fun _ _ => trivial) HB1.out HB1.out.size (by have:=XI.out; simp; omega) ?_); (intro v2 w2 hR2 hB2 _ _); (rw [List.nil_append] at hR2); (have HR2:=Lib.hid hR2); (have HB2:=Lib.hid hB2); (clear hR2 hB2); (have hsz2:=HB2.out.size))) | ((with_reducible refine AO (N:=28) rfl ?_); ((refine Kd.Iy (Kd.int .u8) (w0:=w2) (W:=w2) w2.heap.size 5 rfl (N:=28) rfl (xs:=([]:List Int)) (inner:=[]) (ok:=fun _ => True) (CY:=fun _ => False) (by first | (go_simp; done) | (go_simp; rfl)) (CV.none _ _) (fun _ hk => False.elim hk) trivial (Below.refl _ _) (Nat.le_refl _) (by decide) ?_); (intro v3 w3 FT hB3 _ _); (have HR3:=Lib.hid FT); (have HB3:=Lib.hid hB3); (clear FT hB3); (have hsz3:=HB3.out.size))) | ((with_reducible refine AO (N:=30) rfl ?_); ((refine Kd.Ew (h1:=fun _ => rfl) (Value.int .u8) 0 (w0:=w2) (W:=w3) w2.heap.size rfl (.tmp 28) (.tmp 29) 22 5 (.int .u8 0) 1 rfl Try.underlying22 LZ rfl (by decide) v3 [] body Ab nb cb (fun _ => True) rfl rfl (fun _ _ => trivial) HR3.out (Kd.Cm (Ez.out ▸ BB.out.1) (HW0.out.trans ((HB2.out.trans (HB3.out.mono hsz2)).mono hsz0))) HB3.out hsz3 (by have:=fP.out; simp only [List.length_nil]; omega) ?_); (intro v4 w4 Ji hB4 _ _); (obtain ⟨A4,c4,hv4⟩:=Kd.Am Ji); (rw [List.nil_append] at Ji hv4); (rw [Ez.out] at hv4); (subst hv4); (have HR4:=Lib.hid (show (Kd.int .u8).R 5 w4 w2.heap.size (fun _ => True) (.slice A4 nb c4) body from Ji)); (have HB4:=Lib.hid hB4); (clear Ji hB4 HR3 HB3); (have J4:=HB4.out.size))) | ((with_reducible refine AO (N:=31) rfl ?_); ((refine Kd.Iy (Dc 1) (w0:=w4) (W:=w4) w4.heap.size 22 rfl (N:=31) rfl (xs:=[[Value.slice A4 nb c4]]) (inner:=[.slice A4 nb c4]) (ok:=fun _ => True) (CY:=fun _ => False) (by first | (go_simp; done) | (go_simp; rfl)) (CV.one ⟨rfl,rfl,by simp [Value.oneCell']⟩ (CV.none _ _)) (fun _ hk => False.elim hk) trivial (Below.refl _ _) (Nat.le_refl _) (by simp) ?_); (intro v5 w5 fQ Nb _ _); (obtain ⟨A5,c5,hv5,_,fU⟩:=Kd.IG fQ); (subst hv5); (have Ns:=Lib.hid fU); (have FN:=Lib.hid Nb); (clear fQ fU Nb); (have hsz5:=FN.out.size); (have Nu:=Lib.hid (HB4.out.trans (FN.out.mono J4))))) | ((with_reducible refine AO (N:=32) rfl ?_); ((refine Kd.BN (Dc 1) (Rr:=fun x cs => cs = x ∧ x.length = 1 ∧ ∀ u ∈ x,u.oneCell' = true) (w0:=w0) (W:=w5) w0.heap.size rfl (.tmp 27) (.tmp 31) 45 22 (.slice none 0 0) 24 rfl Try.underlying45 JV rfl (by decide) (by decide) v2 Jr [[Value.slice A4 nb c4]] A5 1 c5 (fun _ => True) (fun _ => False) rfl rfl (Kd.Ee HR2.out Nu.out) Ns.out (fun _ _ hx => hx) (fun _ hf => hf.elim) (fun _ _ => trivial) (HB2.out.trans (Nu.out.mono hsz2)) (by omega) (by have h1:=XI.out; have h2:=QE.out; omega) ?_); (intro v6 w6 LM MH Nc _); (obtain ⟨A6,c6,hv6⟩:=Kd.Am LM); (rw [show (Jr ++ [[Value.slice A4 nb c4]]).length = nq + 1 from by rw [List.length_append,QE.out]; rfl] at hv6); (subst hv6); (have hQ:=QD HS.out LP.out QE.out Ez.out kE.out HW0.out RZ HB2.out HR2.out HB4.out HR4.out FN.out Nc MH LM); (have HQ:=Lib.hid hQ); (have IE:=Lib.hid MH); (clear hQ LM MH Nc Ns HR2 HR4 HB4 FN Nu HB1 HR1 oH); (have MI:=Lib.hid ((IE.out.block _ (by omega)).trans HX0.out)); (have Yt:=Lib.hid ((IE.out.block _ (by omega)).trans HZ0.out)); (have Kt:=Lib.hid (HW0.out.trans (IE.out.mono hsz0))); (have PD:=Lib.hid (show w.heap.size + 2 ≤ w6.heap.size from by have:=IE.out.size; omega)); (clear HX0 J9 HZ0 hsz0 RZ hsz2 hsz3 J4 hsz5 IE HB2); (have Nv:=Lib.hid (show RE (plus S w 2) w6 { L with queue:=L.queue ++ [body] } ((nx + 1) % 4294967296) A6 c6 Ao co from ⟨by rw [show ({ L with queue:=L.queue ++ [body] }:Lk).queue.length = nq + 1 from S9.out]; exact HQ.out.1,by rw [show ({ L with queue:=L.queue ++ [body] }:Lk).queue.length = nq + 1 from S9.out]; exact HQ.out.2,(HE.out.o.up (by decide) FB).below Kt.out,fun _ => kF.out⟩)); (clear HQ HW0))) | ((with_reducible refine gate_ (.store 45 (.tmp 33) (.tmp 32)) rfl ?_); (refine AU (fun wz => wz.heap[w.heap.size]? = some (.cells #[.int .u32 L.own,.int .i64 L.phase,.int .u32 L.token,.int .u32 L.AB,.int .u32 L.yours,.bool L.known,.slice A6 (nq + 1) c6,.int .i64 L.sent,.int .u32 nx,.int .u32 L.expected,.int .i64 L.idle,.slice Ao no co] 78 (0,0)) ∧ Steps.At (w.heap.size) w6 wz) rfl rfl ⟨_,(by have hz1:World.cell? w6 ⟨w.heap.size,6,none⟩ = some _:=(AA MI.out 6).trans rfl; have hz2:=AL MI.out 6; first | (go_simp; done) | (go_simp; rfl)),Af MI.out 6 _ rfl,Steps.At.set (Steps.At.refl _ _) _ _⟩ (fun w7 hF => ?_)); (have Iu:=Lib.hid hF.1); (have D9:=Lib.hid hF.2); (clear hF); (have Yu:=Lib.hid ((D9.out.block _ (by omega)).trans Yt.out)); (have La:=Lib.hid (D9.out.below Kt.out (Nat.le_refl _))); (have Nw:=Lib.hid (Nv.out.keep (AP D9.out (CE (i:=0) (by decide))))); (have UK:=Lib.hid (show w.heap.size + 2 ≤ w7.heap.size from by have h8:=D9.out.size; have h9:=PD.out; omega)); (clear Yt Kt Nv MI PD); (have Rh:w7.cell? ⟨w.heap.size,8,none⟩ = some (.int .u32 nx):=(AA Iu.out 8).trans rfl)) | ((with_reducible refine gate_ (.store 24 (.tmp 37) (.tmp 36)) rfl ?_); (refine AU (fun wz => wz.heap[w.heap.size]? = some (.cells #[.int .u32 L.own,.int .i64 L.phase,.int .u32 L.token,.int .u32 L.AB,.int .u32 L.yours,.bool L.known,.slice A6 (nq + 1) c6,.int .i64 L.sent,.int .u32 ((nx + 1) % 4294967296),.int .u32 L.expected,.int .i64 L.idle,.slice Ao no co] 78 (0,0)) ∧ Steps.At (w.heap.size) w7 wz) rfl rfl ⟨_,(by have hz1:World.cell? w7 ⟨w.heap.size,8,none⟩ = some _:=(AA Iu.out 8).trans rfl; have hz2:=AL Iu.out 8; first | (go_simp; done) | (go_simp; rfl)),Af Iu.out 8 _ rfl,Steps.At.set (Steps.At.refl _ _) _ _⟩ (fun w8 hF => ?_)); (have Hq:=Lib.hid hF.1); (have EC:=Lib.hid hF.2); (clear hF); (have aK:=Lib.hid ((EC.out.block _ (by omega)).trans Yu.out)); (have Og:=Lib.hid (EC.out.below La.out (Nat.le_refl _))); (have Oh:=Lib.hid (Nw.out.keep (AP EC.out (CE (i:=0) (by decide))))); (have Yv:=Lib.hid (show w.heap.size + 2 ≤ w8.heap.size from by have h8:=EC.out.size; have h9:=UK.out; omega)); (clear Yu La Nw Iu UK); (clear Rh); (have VY:w8.cell? ⟨w.heap.size,7,none⟩ = some (.int .i64 L.sent):=(AA Hq.out 7).trans rfl)) | ((with_reducible refine gate_ (.store 3 (.tmp 44) (.const (.int .i64 0))) rfl ?_); (refine AU (fun wz => wz.heap[w.heap.size]? = some (.cells #[.int .u32 L.own,.int .i64 L.phase,.int .u32 L.token,.int .u32 L.AB,.int .u32 L.yours,.bool L.known,.slice A6 (nq + 1) c6,.int .i64 L.sent,.int .u32 ((nx + 1) % 4294967296),.int .u32 L.expected,.int .i64 0,.slice Ao no co] 78 (0,0)) ∧ Steps.At (w.heap.size) w8 wz) rfl rfl ⟨_,(by have hz1:World.cell? w8 ⟨w.heap.size,10,none⟩ = some _:=(AA Hq.out 10).trans rfl; have hz2:=AL Hq.out 10; first | (go_simp; done) | (go_simp; rfl)),Af Hq.out 10 _ rfl,Steps.At.set (Steps.At.refl _ _) _ _⟩ (fun w9 hF => ?_)); (have kG:=Lib.hid hF.1); (have Ia:=Lib.hid hF.2); (clear hF); (have wS:=Lib.hid ((Ia.out.block _ (by omega)).trans aK.out)); (have bu:=Lib.hid (Ia.out.below Og.out (Nat.le_refl _))); (have kH:=Lib.hid (Oh.out.keep (AP Ia.out (CE (i:=0) (by decide))))); (have zV:=Lib.hid (show w.heap.size + 2 ≤ w9.heap.size from by have h8:=Ia.out.size; have h9:=Yv.out; omega)); (clear aK Og Oh Hq Yv); (clear VY); (have sG:w9.cell? ⟨w.heap.size,7,none⟩ = some (.int .i64 L.sent):=(AA kG.out 7).trans rfl)) | ((with_reducible refine gate_ (.store 3 (.tmp 48) (.tmp 47)) rfl ?_); (refine AU (fun wz => wz.heap[w.heap.size]? = some (.cells #[.int .u32 L.own,.int .i64 L.phase,.int .u32 L.token,.int .u32 L.AB,.int .u32 L.yours,.bool L.known,.slice A6 (nq + 1) c6,.int .i64 (L.sent + 1),.int .u32 ((nx + 1) % 4294967296),.int .u32 L.expected,.int .i64 0,.slice Ao no co] 78 (0,0)) ∧ Steps.At (w.heap.size) w9 wz) rfl rfl ⟨_,(by have hz1:World.cell? w9 ⟨w.heap.size,7,none⟩ = some _:=(AA kG.out 7).trans rfl; have hz2:=AL kG.out 7; first | (go_simp; done) | (go_simp; rfl)),Af kG.out 7 _ rfl,Steps.At.set (Steps.At.refl _ _) _ _⟩ (fun w10 hF => ?_)); (have Ny:=Lib.hid hF.1); (have GV:=Lib.hid hF.2); (clear hF); (have UX:=Lib.hid ((GV.out.block _ (by omega)).trans wS.out)); (have Ri:=Lib.hid (GV.out.below bu.out (Nat.le_refl _))); (have Rj:=Lib.hid (kH.out.keep (AP GV.out (CE (i:=0) (by decide))))); (have QF:=Lib.hid (show w.heap.size + 2 ≤ w10.heap.size from by have h8:=GV.out.size; have h9:=zV.out; omega)); (clear wS bu kH kG zV); (clear sG); (have UY:w10.cell? ⟨w.heap.size,7,none⟩ = some (.int .i64 (L.sent + 1)):=(AA Ny.out 7).trans rfl)) | ((with_reducible refine AO (N:=49) rfl ?_); ((refine wpList_load_row rfl 78 (.tmp 2) rfl (w.heap.size) (by rfl) 78 #[.int .u32 L.own,.int .i64 L.phase,.int .u32 L.token,.int .u32 L.AB,.int .u32 L.yours,.bool L.known,.slice A6 (nq + 1) c6,.int .i64 (L.sent + 1),.int .u32 ((nx + 1) % 4294967296),.int .u32 L.expected,.int .i64 0,.slice Ao no co] (0,0) _ Ny.out Try.underlying78 rfl (by kernel_rfl) ?_))) | (go_at_call 118; ((have hcx:=Nr HS.out Jf.out H2.out HI.out h8 HIQ.out S9.out KD.out 0 zU.out QF.out Rj.out); (with_reducible refine hcx.mono ?_); clear hcx; (intro e VZ hq); (obtain ⟨⟨v,he,IW⟩,hb2⟩:=hq); (obtain ⟨Ed,A7,c7,A8,c8,hv,BM⟩:=IW); (subst hv); (subst he); (have Rk:=Lib.hid BM); (have Rl:=Lib.hid (Ri.out.trans (hb2.mono (by have:=QF.out; omega)))); (have Yw:=Lib.hid ((hb2.block _ (AQ Ny.out)).trans Ny.out)); (have Yx:=Lib.hid ((hb2.block _ (AQ UX.out)).trans UX.out)); (have Yy:=Lib.hid (show w.heap.size + 2 ≤ VZ.heap.size from by have h8:=hb2.size; have h9:=QF.out; omega)); (clear BM hb2 UY Ny UX Ri Rj QF))) | ((with_reducible refine gate_ (.store 78 (.tmp 2) (.tmp 53)) rfl ?_); (refine Ad rfl rfl 78 (.tmp 2) (.tmp 53) rfl (w.heap.size) _ rfl rfl 78 _ Yw.out (by kernel_rfl) rfl (by kernel_rfl) ?_); (intro w12 hbX Ec); (have kJ:=Lib.hid hbX); (have GX:=Lib.hid Ec); (clear hbX Ec); (have kK:=Lib.hid ((GX.out.block _ (by omega)).trans Yx.out)); (have fM:=Lib.hid (GX.out.below Rl.out (Nat.le_refl _))); (have fO:=Lib.hid (Rk.out.keep (AP GX.out (CE (i:=0) (by decide))))); (have zW:=Lib.hid (show w.heap.size + 2 ≤ w12.heap.size from by have h8:=GX.out.size; have h9:=Yy.out; omega)); (clear Yx Rl Rk Yw Yy)) | ((with_reducible refine AO (N:=54) rfl ?_); ((refine wpList_load_row rfl 78 (.tmp 2) rfl (w.heap.size) (by rfl) 78 _ (0,0) _ kJ.out Try.underlying78 rfl (by kernel_rfl) ?_))) | ((with_reducible refine gate_ (.store 78 (.tmp 4) (.tmp 54)) rfl ?_); (refine Ad rfl rfl 78 (.tmp 4) (.tmp 54) rfl (w.heap.size + 1) _ rfl rfl 78 _ kK.out (by kernel_rfl) rfl (by kernel_rfl) ?_); (intro wz hbX Ec); (have aJ:=Lib.hid hbX); (have Kr:=Lib.hid Ec); (clear hbX Ec)))
  exact Z36
 ·have hqs:(L.sent == 0) = false:=by simp [hs0]
  have zU:=Lib.hid (show (if L.sent = 0 then 0 else L.idle) = L.idle from if_neg hs0)
  have rM:=Lib.hid hs0
  clear hs0
  go_enter Try.func88,Try.ntmps88
  go_wp2_with (first | ((with_reducible refine AO (N:=24) rfl ?_); ((obtain ⟨w0,hw0⟩:∃ w0,w0 = (w.alloc (.cells #[.int .u32 L.own,.int .i64 L.phase,.int .u32 L.token,.int .u32 L.AB,.int .u32 L.yours,.bool L.known,.slice Aq nq cq,.int .i64 L.sent,.int .u32 nx,.int .u32 L.expected,.int .i64 L.idle,.slice Ao no co] 78)).alloc (.cells #[.int .u32 0,.int .i64 0,.int .u32 0,.int .u32 0,.int .u32 0,.bool false,.slice none 0 0,.int .i64 0,.int .u32 0,.int .u32 0,.int .i64 0,.slice none 0 0] 78):=⟨_,rfl⟩); (rw [← hw0]); (have HW0:=Lib.hid (show Below w.heap.size w w0 from hw0 ▸ Io w _ _)); (have HX0:=Lib.hid (show w0.heap[w.heap.size]? = some (.cells #[.int .u32 L.own,.int .i64 L.phase,.int .u32 L.token,.int .u32 L.AB,.int .u32 L.yours,.bool L.known,.slice Aq nq cq,.int .i64 L.sent,.int .u32 nx,.int .u32 L.expected,.int .i64 L.idle,.slice Ao no co] 78 (0,0)) from hw0 ▸ Jq w _ _)); (have HZ0:=Lib.hid (show w0.heap[w.heap.size + 1]? = some (.cells #[.int .u32 0,.int .i64 0,.int .u32 0,.int .u32 0,.int .u32 0,.bool false,.slice none 0 0,.int .i64 0,.int .u32 0,.int .u32 0,.int .i64 0,.slice none 0 0] 78 (0,0)) from hw0 ▸ Ij w _ _)); (clear hw0); (have hsz0:=HW0.out.size); (have RZ:=AQ HZ0.out); (refine Kd.Iy (Dc 1) (w0:=w0) (W:=w0) w0.heap.size 22 rfl (N:=24) rfl (xs:=[]) (inner:=[]) (ok:=fun _ => True) (CY:=fun _ => False) (by first | (go_simp; done) | (go_simp; rfl)) (CV.none _ _) (fun _ hk => False.elim hk) trivial (Below.refl _ _) (Nat.le_refl _) (by decide) ?_); (intro v1 w1 hR1 hB1 hg1 ho1); (obtain ⟨A1,c1,hv1⟩:=Kd.Am hR1); (subst hv1); (have HR1:=Lib.hid hR1); (have HB1:=Lib.hid hB1); (clear hR1 hB1 hg1 ho1); (have J9:=Lib.hid ((HB1.out.block _ (by omega)).trans HX0.out)); (have hc6:w1.cell? ⟨w.heap.size,6,none⟩ = some (.slice Aq nq cq):=(AA J9.out 6).trans rfl))) | ((with_reducible refine AO (N:=27) rfl ?_); ((refine Kd.BN (Dc 1) (Rr:=fun x cs => cs = x ∧ x.length = 1 ∧ ∀ u ∈ x,u.oneCell' = true) (w0:=w0) (W:=w1) w0.heap.size rfl (.tmp 24) (.tmp 26) 45 22 (.slice none 0 0) 24 rfl Try.underlying45 JV rfl (by decide) (by decide) (.slice A1 ([]:List (List Value)).length c1) [] Jr Aq nq cq (fun _ => True) (fun _ => False) rfl rfl HR1.out (Kd.Cm oH.out (HW0.out.trans (HB1.out.mono hsz0))) (fun _ _ hx => hx) (fun _ hf => hf.elim) (fun _ _ => trivial) HB1.out HB1.out.size (by have:=XI.out; simp; omega) ?_); (intro v2 w2 hR2 hB2 _ _); (rw [List.nil_append] at hR2); (have HR2:=Lib.hid hR2); (have HB2:=Lib.hid hB2); (clear hR2 hB2); (have hsz2:=HB2.out.size))) | ((with_reducible refine AO (N:=28) rfl ?_); ((refine Kd.Iy (Kd.int .u8) (w0:=w2) (W:=w2) w2.heap.size 5 rfl (N:=28) rfl (xs:=([]:List Int)) (inner:=[]) (ok:=fun _ => True) (CY:=fun _ => False) (by first | (go_simp; done) | (go_simp; rfl)) (CV.none _ _) (fun _ hk => False.elim hk) trivial (Below.refl _ _) (Nat.le_refl _) (by decide) ?_); (intro v3 w3 FT hB3 _ _); (have HR3:=Lib.hid FT); (have HB3:=Lib.hid hB3); (clear FT hB3); (have hsz3:=HB3.out.size))) | ((with_reducible refine AO (N:=30) rfl ?_); ((refine Kd.Ew (h1:=fun _ => rfl) (Value.int .u8) 0 (w0:=w2) (W:=w3) w2.heap.size rfl (.tmp 28) (.tmp 29) 22 5 (.int .u8 0) 1 rfl Try.underlying22 LZ rfl (by decide) v3 [] body Ab nb cb (fun _ => True) rfl rfl (fun _ _ => trivial) HR3.out (Kd.Cm (Ez.out ▸ BB.out.1) (HW0.out.trans ((HB2.out.trans (HB3.out.mono hsz2)).mono hsz0))) HB3.out hsz3 (by have:=fP.out; simp only [List.length_nil]; omega) ?_); (intro v4 w4 Ji hB4 _ _); (obtain ⟨A4,c4,hv4⟩:=Kd.Am Ji); (rw [List.nil_append] at Ji hv4); (rw [Ez.out] at hv4); (subst hv4); (have HR4:=Lib.hid (show (Kd.int .u8).R 5 w4 w2.heap.size (fun _ => True) (.slice A4 nb c4) body from Ji)); (have HB4:=Lib.hid hB4); (clear Ji hB4 HR3 HB3); (have J4:=HB4.out.size))) | ((with_reducible refine AO (N:=31) rfl ?_); ((refine Kd.Iy (Dc 1) (w0:=w4) (W:=w4) w4.heap.size 22 rfl (N:=31) rfl (xs:=[[Value.slice A4 nb c4]]) (inner:=[.slice A4 nb c4]) (ok:=fun _ => True) (CY:=fun _ => False) (by first | (go_simp; done) | (go_simp; rfl)) (CV.one ⟨rfl,rfl,by simp [Value.oneCell']⟩ (CV.none _ _)) (fun _ hk => False.elim hk) trivial (Below.refl _ _) (Nat.le_refl _) (by simp) ?_); (intro v5 w5 fQ Nb _ _); (obtain ⟨A5,c5,hv5,_,fU⟩:=Kd.IG fQ); (subst hv5); (have Ns:=Lib.hid fU); (have FN:=Lib.hid Nb); (clear fQ fU Nb); (have hsz5:=FN.out.size); (have Nu:=Lib.hid (HB4.out.trans (FN.out.mono J4))))) | ((with_reducible refine AO (N:=32) rfl ?_); ((refine Kd.BN (Dc 1) (Rr:=fun x cs => cs = x ∧ x.length = 1 ∧ ∀ u ∈ x,u.oneCell' = true) (w0:=w0) (W:=w5) w0.heap.size rfl (.tmp 27) (.tmp 31) 45 22 (.slice none 0 0) 24 rfl Try.underlying45 JV rfl (by decide) (by decide) v2 Jr [[Value.slice A4 nb c4]] A5 1 c5 (fun _ => True) (fun _ => False) rfl rfl (Kd.Ee HR2.out Nu.out) Ns.out (fun _ _ hx => hx) (fun _ hf => hf.elim) (fun _ _ => trivial) (HB2.out.trans (Nu.out.mono hsz2)) (by omega) (by have h1:=XI.out; have h2:=QE.out; omega) ?_); (intro v6 w6 LM MH Nc _); (obtain ⟨A6,c6,hv6⟩:=Kd.Am LM); (rw [show (Jr ++ [[Value.slice A4 nb c4]]).length = nq + 1 from by rw [List.length_append,QE.out]; rfl] at hv6); (subst hv6); (have hQ:=QD HS.out LP.out QE.out Ez.out kE.out HW0.out RZ HB2.out HR2.out HB4.out HR4.out FN.out Nc MH LM); (have HQ:=Lib.hid hQ); (have IE:=Lib.hid MH); (clear hQ LM MH Nc Ns HR2 HR4 HB4 FN Nu HB1 HR1 oH); (have MI:=Lib.hid ((IE.out.block _ (by omega)).trans HX0.out)); (have Yt:=Lib.hid ((IE.out.block _ (by omega)).trans HZ0.out)); (have Kt:=Lib.hid (HW0.out.trans (IE.out.mono hsz0))); (have PD:=Lib.hid (show w.heap.size + 2 ≤ w6.heap.size from by have:=IE.out.size; omega)); (clear HX0 J9 HZ0 hsz0 RZ hsz2 hsz3 J4 hsz5 IE HB2); (have Nv:=Lib.hid (show RE (plus S w 2) w6 { L with queue:=L.queue ++ [body] } ((nx + 1) % 4294967296) A6 c6 Ao co from ⟨by rw [show ({ L with queue:=L.queue ++ [body] }:Lk).queue.length = nq + 1 from S9.out]; exact HQ.out.1,by rw [show ({ L with queue:=L.queue ++ [body] }:Lk).queue.length = nq + 1 from S9.out]; exact HQ.out.2,(HE.out.o.up (by decide) FB).below Kt.out,fun _ => kF.out⟩)); (clear HQ HW0))) | ((with_reducible refine gate_ (.store 45 (.tmp 33) (.tmp 32)) rfl ?_); (refine AU (fun wz => wz.heap[w.heap.size]? = some (.cells #[.int .u32 L.own,.int .i64 L.phase,.int .u32 L.token,.int .u32 L.AB,.int .u32 L.yours,.bool L.known,.slice A6 (nq + 1) c6,.int .i64 L.sent,.int .u32 nx,.int .u32 L.expected,.int .i64 L.idle,.slice Ao no co] 78 (0,0)) ∧ Steps.At (w.heap.size) w6 wz) rfl rfl ⟨_,(by have hz1:World.cell? w6 ⟨w.heap.size,6,none⟩ = some _:=(AA MI.out 6).trans rfl; have hz2:=AL MI.out 6; first | (go_simp; done) | (go_simp; rfl)),Af MI.out 6 _ rfl,Steps.At.set (Steps.At.refl _ _) _ _⟩ (fun w7 hF => ?_)); (have Iu:=Lib.hid hF.1); (have D9:=Lib.hid hF.2); (clear hF); (have Yu:=Lib.hid ((D9.out.block _ (by omega)).trans Yt.out)); (have La:=Lib.hid (D9.out.below Kt.out (Nat.le_refl _))); (have Nw:=Lib.hid (Nv.out.keep (AP D9.out (CE (i:=0) (by decide))))); (have UK:=Lib.hid (show w.heap.size + 2 ≤ w7.heap.size from by have h8:=D9.out.size; have h9:=PD.out; omega)); (clear Yt Kt Nv MI PD); (have Rh:w7.cell? ⟨w.heap.size,8,none⟩ = some (.int .u32 nx):=(AA Iu.out 8).trans rfl)) | ((with_reducible refine gate_ (.store 24 (.tmp 37) (.tmp 36)) rfl ?_); (refine AU (fun wz => wz.heap[w.heap.size]? = some (.cells #[.int .u32 L.own,.int .i64 L.phase,.int .u32 L.token,.int .u32 L.AB,.int .u32 L.yours,.bool L.known,.slice A6 (nq + 1) c6,.int .i64 L.sent,.int .u32 ((nx + 1) % 4294967296),.int .u32 L.expected,.int .i64 L.idle,.slice Ao no co] 78 (0,0)) ∧ Steps.At (w.heap.size) w7 wz) rfl rfl ⟨_,(by have hz1:World.cell? w7 ⟨w.heap.size,8,none⟩ = some _:=(AA Iu.out 8).trans rfl; have hz2:=AL Iu.out 8; first | (go_simp; done) | (go_simp; rfl)),Af Iu.out 8 _ rfl,Steps.At.set (Steps.At.refl _ _) _ _⟩ (fun w8 hF => ?_)); (have Hq:=Lib.hid hF.1); (have EC:=Lib.hid hF.2); (clear hF); (have aK:=Lib.hid ((EC.out.block _ (by omega)).trans Yu.out)); (have Og:=Lib.hid (EC.out.below La.out (Nat.le_refl _))); (have Oh:=Lib.hid (Nw.out.keep (AP EC.out (CE (i:=0) (by decide))))); (have Yv:=Lib.hid (show w.heap.size + 2 ≤ w8.heap.size from by have h8:=EC.out.size; have h9:=UK.out; omega)); (clear Yu La Nw Iu UK); (clear Rh); (have VY:w8.cell? ⟨w.heap.size,7,none⟩ = some (.int .i64 L.sent):=(AA Hq.out 7).trans rfl)) | ((with_reducible refine gate_ (.store 3 (.tmp 48) (.tmp 47)) rfl ?_); (refine AU (fun wz => wz.heap[w.heap.size]? = some (.cells #[.int .u32 L.own,.int .i64 L.phase,.int .u32 L.token,.int .u32 L.AB,.int .u32 L.yours,.bool L.known,.slice A6 (nq + 1) c6,.int .i64 (L.sent + 1),.int .u32 ((nx + 1) % 4294967296),.int .u32 L.expected,.int .i64 L.idle,.slice Ao no co] 78 (0,0)) ∧ Steps.At (w.heap.size) w8 wz) rfl rfl ⟨_,(by have hz1:World.cell? w8 ⟨w.heap.size,7,none⟩ = some _:=(AA Hq.out 7).trans rfl; have hz2:=AL Hq.out 7; first | (go_simp; done) | (go_simp; rfl)),Af Hq.out 7 _ rfl,Steps.At.set (Steps.At.refl _ _) _ _⟩ (fun w10 hF => ?_)); (have Ny:=Lib.hid hF.1); (have GV:=Lib.hid hF.2); (clear hF); (have UX:=Lib.hid ((GV.out.block _ (by omega)).trans aK.out)); (have Ri:=Lib.hid (GV.out.below Og.out (Nat.le_refl _))); (have Rj:=Lib.hid (Oh.out.keep (AP GV.out (CE (i:=0) (by decide))))); (have QF:=Lib.hid (show w.heap.size + 2 ≤ w10.heap.size from by have h8:=GV.out.size; have h9:=Yv.out; omega)); (clear aK Og Oh Hq Yv); (clear VY); (have UY:w10.cell? ⟨w.heap.size,7,none⟩ = some (.int .i64 (L.sent + 1)):=(AA Ny.out 7).trans rfl)) | ((with_reducible refine AO (N:=49) rfl ?_); ((refine wpList_load_row rfl 78 (.tmp 2) rfl (w.heap.size) (by rfl) 78 #[.int .u32 L.own,.int .i64 L.phase,.int .u32 L.token,.int .u32 L.AB,.int .u32 L.yours,.bool L.known,.slice A6 (nq + 1) c6,.int .i64 (L.sent + 1),.int .u32 ((nx + 1) % 4294967296),.int .u32 L.expected,.int .i64 L.idle,.slice Ao no co] (0,0) _ Ny.out Try.underlying78 rfl (by kernel_rfl) ?_))) | (go_at_call 118; ((have hcx:=Nr HS.out Jf.out H2.out HI.out h8 HIQ.out S9.out KD.out L.idle zU.out QF.out Rj.out); (with_reducible refine hcx.mono ?_); clear hcx; (intro e VZ hq); (obtain ⟨⟨v,he,IW⟩,hb2⟩:=hq); (obtain ⟨Ed,A7,c7,A8,c8,hv,BM⟩:=IW); (subst hv); (subst he); (have Rk:=Lib.hid BM); (have Rl:=Lib.hid (Ri.out.trans (hb2.mono (by have:=QF.out; omega)))); (have Yw:=Lib.hid ((hb2.block _ (AQ Ny.out)).trans Ny.out)); (have Yx:=Lib.hid ((hb2.block _ (AQ UX.out)).trans UX.out)); (have Yy:=Lib.hid (show w.heap.size + 2 ≤ VZ.heap.size from by have h8:=hb2.size; have h9:=QF.out; omega)); (clear BM hb2 UY Ny UX Ri Rj QF))) | ((with_reducible refine gate_ (.store 78 (.tmp 2) (.tmp 53)) rfl ?_); (refine Ad rfl rfl 78 (.tmp 2) (.tmp 53) rfl (w.heap.size) _ rfl rfl 78 _ Yw.out (by kernel_rfl) rfl (by kernel_rfl) ?_); (intro w12 hbX Ec); (have kJ:=Lib.hid hbX); (have GX:=Lib.hid Ec); (clear hbX Ec); (have kK:=Lib.hid ((GX.out.block _ (by omega)).trans Yx.out)); (have fM:=Lib.hid (GX.out.below Rl.out (Nat.le_refl _))); (have fO:=Lib.hid (Rk.out.keep (AP GX.out (CE (i:=0) (by decide))))); (have zW:=Lib.hid (show w.heap.size + 2 ≤ w12.heap.size from by have h8:=GX.out.size; have h9:=Yy.out; omega)); (clear Yx Rl Rk Yw Yy)) | ((with_reducible refine AO (N:=54) rfl ?_); ((refine wpList_load_row rfl 78 (.tmp 2) rfl (w.heap.size) (by rfl) 78 _ (0,0) _ kJ.out Try.underlying78 rfl (by kernel_rfl) ?_))) | ((with_reducible refine gate_ (.store 78 (.tmp 4) (.tmp 54)) rfl ?_); (refine Ad rfl rfl 78 (.tmp 4) (.tmp 54) rfl (w.heap.size + 1) _ rfl rfl 78 _ kK.out (by kernel_rfl) rfl (by kernel_rfl) ?_); (intro wz hbX Ec); (have aJ:=Lib.hid hbX); (have Kr:=Lib.hid Ec); (clear hbX Ec)))
  exact Z36
theorem wU {p:Prop} (h:p:=by
 have HE:=Lib.hid h
 have HS:=Lib.hid hS
 clear h hS
 unfold EV
 generalize hnq:L.queue.length = nq at *
 generalize hno:L.out.length = no at *
 have LP:=Lib.hid hnq
 have KD:=Lib.hid hno
 clear hnq hno
 have Df:=Try.underlying78
 go_enter Try.func88,Try.ntmps88
 go_wp2
 all_goals go_returns
 all_goals (refine ⟨⟨_,rfl,nx,Aq,cq,Ao,co,?_,HE.out.below (Io _ _ _)⟩,Io _ _ _⟩; (rw [LP.out,KD.out]; rfl))):p:=h
theorem fV {S:Nat → Prop} {w:World} (hS:∀ k,S k → k < w.heap.size) {L:Lk} (hok:L.Ok) (hw:Pr.Wn L) {nx:Int} {Aq:Option Addr} {cq:Nat} {Ao:Option Addr} {co:Nat} (h:RE S w L nx Aq cq Ao co) (body:List Int) (nb:Nat) (hnb:body.length = nb) {Ab:Option Addr} {cb:Nat} (hbd:Gl S w Ab body) :
  Calls Try.prog 88 #[EV L nx Aq L.queue.length cq Ao L.out.length co,.slice Ab nb cb] w fun e w' => (∃ v,e = .returned (.tuple #[v,.int .i64 (Bq L nb)]) ∧ RV S w' (Be L body) v) ∧ Below w.heap.size w w':=by
 by_cases h2:L.phase = 2
 rotate_left
 ·have e1:Bq L nb = 110:=if_neg h2
  have e2:Be L body = L:=if_neg (by rw [hnb,e1]; decide)
  have hq0:(L.phase != 2) = true:=by simp [h2]
  rw [e1,e2]
  clear hok hbd hw e1 e2 h2
  exact wU
 have hq0:(L.phase != 2) = false:=by simp [h2]
 by_cases h0:nb = 0
 ·have e1:Bq L nb = 112:=by unfold Bq; rw [if_pos h2,if_pos (.inl h0)]
  have e2:Be L body = L:=if_neg (by rw [hnb,e1]; decide)
  have hq1:decide ((nb:Int) < 1) = true:=by simp [h0]
  have hq2:(nb:Int) < 1:=by omega
  rw [e1,e2]
  clear hok hbd hw e1 e2 h2 hnb h0
  exact wU
 have hq1:decide ((nb:Int) < 1) = false:=by simp; omega
 have hq2:¬ (nb:Int) < 1:=by omega
 by_cases h1:1000 < nb
 ·have e1:Bq L nb = 112:=by unfold Bq; rw [if_pos h2,if_pos (.inr h1)]
  have e2:Be L body = L:=if_neg (by rw [hnb,e1]; decide)
  have hq3:decide ((nb:Int) > 1000) = true:=by simp; omega
  have hq4:(nb:Int) > 1000:=by omega
  rw [e1,e2]
  clear hok hbd hw e1 e2 h2 hnb h1 h0
  exact wU
 have hq3:decide ((nb:Int) > 1000) = false:=by simp; omega
 have hq4:¬ (nb:Int) > 1000:=by omega
 have Wh:=hok.queue
 by_cases h6:64 ≤ L.queue.length
 ·have e1:Bq L nb = 113:=by unfold Bq; rw [if_pos h2,if_neg (by omega),if_pos h6]
  have e2:Be L body = L:=if_neg (by rw [hnb,e1]; decide)
  have hq5:((L.queue.length:Int) == 64) = true:=by simp; omega
  rw [e1,e2]
  clear hok hbd hw e1 e2 h2 hnb h1 h0 h6 Wh
  exact wU
 have hq5:((L.queue.length:Int) == 64) = false:=by simp; omega
 exact Yr hS hok hw h body nb hnb hbd h2 hq0 h0 hq1 hq2 h1 hq3 hq4 Wh h6 hq5
end Go.Proofs.Ytnkkgofpifhoeaa.Rf
end
