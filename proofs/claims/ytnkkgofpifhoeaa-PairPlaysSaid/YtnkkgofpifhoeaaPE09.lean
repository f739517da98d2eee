/- What the laws of a pair are proved with: links and pairs in memory, what their methods do, what a pair keeps to (part 9). -/
import Derived.Test.YtnkkgofpifhoeaaPE08
import Derived.Lib.SlBytesConst
import Derived.Lib.SmallJoins
import Derived.LoopN
set_option linter.unusedSimpArgs false
set_option linter.unusedVariables false
set_option maxRecDepth 100000
set_option maxHeartbeats 16000000
section
namespace Go.Proofs.Ytnkkgofpifhoeaa.Pr
open Go.RowKit Go.Proofs.Ytnkkgofpifhoeaa.Base Go.Proofs.Ytnkkgofpifhoeaa.Steps Go.Proofs.Ytnkkgofpifhoeaa.Lk Go.Proofs.Ytnkkgofpifhoeaa.Fg Go.Proofs.YtnkkgofpifhoeaaW.PrintWords Go.Proofs.YtnkkgofpifhoeaaW.PrintLast
def Ai (d:Sd) (L:Lk):Sd:={ d with end_:=L }
theorem Z49 {p:Prop} (h:p:=by
 clear hT ht hQ2 hHeld
 refine hK.out _ _ hS3 (fun hHeld => ?_)
 clear hK K hS3
 refine nm 13 ?_
 refine pu 9 4 ve ?_
 refine BG (by kernel_rfl) ?_
 clear hHeld
 go_wp2_with fail
 all_goals (go_ret; exact ⟨rfl,HT.out⟩)):p:=h
theorem je {w:World} {B gp:Nat} {ge:Nat → Nat} {own:Nat → Nat → Prop} {X:Pr} {lv:Nat → Value} {wv:Value} (h:Dj w B gp ge own X lv wv) (hok:(X.sd 0).end_.Ok) (kind i:Int) (vb:Value) :
  Calls Try.prog 107 #[.pointer (some ⟨gp,0,none⟩),.agg #[.int .i64 kind,.int .i64 0,.int .i64 i,vb]] w fun e w' => e = .returned (.int .i64 (EK (X.sd 0).end_)) ∧ Moves w B gp ge own (X.set 0 (Ai (X.sd 0) (DN (X.sd 0).end_))) (own 1) w':=by
 have hba:Below w.heap.size w (w.alloc (.cells #[.int .i64 kind,.int .i64 0,.int .i64 i,vb] 72)):=(Below.refl _ _).alloc (Nat.le_refl _) _
 have H:=Lib.hid h
 have OK:=Lib.hid hok
 have hSS:(w.alloc (.cells #[.int .i64 kind,.int .i64 0,.int .i64 i,vb] 72)).drew.heap[gp]? = some (.cells (BK X ge lv wv) 143 (0,0)) ∧ (w.alloc (.cells #[.int .i64 kind,.int .i64 0,.int .i64 i,vb] 72)).drew.heap[w.heap.size]? = some (.cells #[.int .i64 kind,.int .i64 0,.int .i64 i,vb] 72 (0,0)):=⟨(h.sub (AZ hba)).blk,heap_alloc_new w _⟩
 have hbd:=AZ hba
 have EJ:=Lib.hid hSS
 have EM:=Lib.hid hbd
 clear h hok hba hSS hbd
 go_enter Try.func107,Try.ntmps107
 go_wp2_with fail
 have hSS:=EJ.out
 have hbd:=EM.out
 clear EJ EM
 refine BA (n:=10) (S:=fun w' => w'.heap[gp]? = some (.cells (BK X ge lv wv) 143 (0,0)) ∧ w'.heap[w.heap.size]? = some (.cells #[.int .i64 kind,.int .i64 0,.int .i64 i,vb] 72 (0,0))) (ds:=[]) pJ (by kernel_rfl) rfl rfl (hSS) (fun hHeld => ?_)
 generalize (w.alloc (.cells #[.int .i64 kind,.int .i64 0,.int .i64 i,vb] 72)).drew = w2 at hbd hHeld ⊢
 have BB:=Lib.hid hbd
 clear hbd
 refine pu 0 5 pK ?_
 refine pu 1 6 pM ?_
 refine tk 2 7 pO hHeld ?_ (hf:=by intro w' s0; have hc1:w'.cell? ⟨w.heap.size,1,none⟩ = some (.int .i64 0):=(AA s0.2 1).trans rfl; clear s0; go_simp; with_reducible rfl)
 refine pu 3 8 pR ?_
 refine pu 4 9 pU ?_
 refine pu 5 10 pV ?_
 refine pu 6 11 pW ?_
 refine tk 7 12 pX hHeld ?_ (hf:=by intro w' s0; have hc2:w'.cell? ⟨gp,0,none⟩ = some (.pointer (some ⟨ge 0,0,none⟩)):=(AA s0.1 0).trans rfl; clear s0; go_simp; rfl)
 refine on 8 (some 13) pY fun K hK => ?_
 have hQ2:=H.out.sub BB.out
 refine BH Try.func27 (by kernel_rfl) rfl #[.pointer (some ⟨ge 0,0,none⟩)] (by rfl) rfl rfl (by (try simp only [List.map_toArray,List.map_cons,List.map_nil]); first | done | rfl) ?_
 refine (Q5 (hQ2.e 0 (by decide)) hQ2.hB OK.out).mono ?_
 rintro e w3 ⟨rfl,ht⟩
 refine ⟨_,rfl,?_⟩
 have hT:=hQ2.turn (s:=0) (by decide) ht
 have HT:=Lib.hid (⟨_,lv,wv,hT,Grew.grow _ BB.out.size,(Kept.of_below BB.out _).BQ ht.2.1 (fun k hk => .inl hk),(BB.out.mono H.out.hB).trans ht.2.2⟩:Moves w B gp ge own (X.set 0 (Ai (X.sd 0) (DN (X.sd 0).end_))) (own 1) w3)
 have hS3:w3.heap[gp]? = some (.cells (BK X ge lv wv) 143 (0,0)) ∧ w3.heap[w.heap.size]? = some (.cells #[.int .i64 kind,.int .i64 0,.int .i64 i,vb] 72 (0,0)):=⟨Ap hHeld.1 ht.2.1 (H.out.Hl _),Ap hHeld.2 ht.2.1 (fun hx => by have:=H.out.lt _ _ hx; omega)⟩
 exact Z49
theorem Z54 {p:Prop} (h:p:=by
 clear hT ht hQ2 hHeld
 refine hK.out _ _ hS3 (fun hHeld => ?_)
 clear hK K hS3
 refine nm 13 ?_
 refine BG (by kernel_rfl) ?_
 clear hHeld
 go_wp2_with fail
 all_goals (go_ret; exact ⟨rfl,HT.out⟩)):p:=h
theorem jf {w:World} {B gp:Nat} {ge:Nat → Nat} {own:Nat → Nat → Prop} {X:Pr} {lv:Nat → Value} {wv:Value} (h:Dj w B gp ge own X lv wv) (hok:(X.sd 0).end_.Ok) (kind i:Int) (vb:Value) :
  Calls Try.prog 110 #[.pointer (some ⟨gp,0,none⟩),.agg #[.int .i64 kind,.int .i64 0,.int .i64 i,vb]] w fun e w' => e = .returned (.int .i64 0) ∧ Moves w B gp ge own (X.set 0 (Ai (X.sd 0) (Dz (X.sd 0).end_))) (own 1) w':=by
 have hba:Below w.heap.size w (w.alloc (.cells #[.int .i64 kind,.int .i64 0,.int .i64 i,vb] 72)):=(Below.refl _ _).alloc (Nat.le_refl _) _
 have H:=Lib.hid h
 have OK:=Lib.hid hok
 have hSS:(w.alloc (.cells #[.int .i64 kind,.int .i64 0,.int .i64 i,vb] 72)).drew.heap[gp]? = some (.cells (BK X ge lv wv) 143 (0,0)) ∧ (w.alloc (.cells #[.int .i64 kind,.int .i64 0,.int .i64 i,vb] 72)).drew.heap[w.heap.size]? = some (.cells #[.int .i64 kind,.int .i64 0,.int .i64 i,vb] 72 (0,0)):=⟨(h.sub (AZ hba)).blk,heap_alloc_new w _⟩
 have hbd:=AZ hba
 have EJ:=Lib.hid hSS
 have EM:=Lib.hid hbd
 clear h hok hba hSS hbd
 go_enter Try.func110,Try.ntmps110
 go_wp2_with fail
 have hSS:=EJ.out
 have hbd:=EM.out
 clear EJ EM
 refine BA (n:=9) (S:=fun w' => w'.heap[gp]? = some (.cells (BK X ge lv wv) 143 (0,0)) ∧ w'.heap[w.heap.size]? = some (.cells #[.int .i64 kind,.int .i64 0,.int .i64 i,vb] 72 (0,0))) (ds:=[]) Zu (by kernel_rfl) rfl rfl (hSS) (fun hHeld => ?_)
 generalize (w.alloc (.cells #[.int .i64 kind,.int .i64 0,.int .i64 i,vb] 72)).drew = w2 at hbd hHeld ⊢
 have BB:=Lib.hid hbd
 clear hbd
 refine pu 0 5 yG ?_
 refine pu 1 6 yH ?_
 refine tk 2 7 aP hHeld ?_ (hf:=by intro w' s0; have hc1:w'.cell? ⟨w.heap.size,1,none⟩ = some (.int .i64 0):=(AA s0.2 1).trans rfl; clear s0; go_simp; with_reducible rfl)
 refine pu 3 8 aQ ?_
 refine pu 4 9 Zv ?_
 refine pu 5 10 Zw ?_
 refine pu 6 11 Zx ?_
 refine tk 7 12 Zy hHeld ?_ (hf:=by intro w' s0; have hc2:w'.cell? ⟨gp,0,none⟩ = some (.pointer (some ⟨ge 0,0,none⟩)):=(AA s0.1 0).trans rfl; clear s0; go_simp; rfl)
 refine on 8 (some 13) Zz fun K hK => ?_
 have hQ2:=H.out.sub BB.out
 refine BH Try.func33 (by kernel_rfl) rfl #[.pointer (some ⟨ge 0,0,none⟩)] (by rfl) rfl rfl (by (try simp only [List.map_toArray,List.map_cons,List.map_nil]); first | done | rfl) ?_
 refine (VR (hQ2.e 0 (by decide)) OK.out hQ2.hB).mono ?_
 rintro e w3 ⟨rfl,ht⟩
 refine ⟨_,rfl,?_⟩
 have hT:=hQ2.turn (s:=0) (by decide) ht
 have HT:=Lib.hid (⟨_,lv,wv,hT,Grew.grow _ BB.out.size,(Kept.of_below BB.out _).BQ ht.2.1 (fun k hk => .inl hk),(BB.out.mono H.out.hB).trans ht.2.2⟩:Moves w B gp ge own (X.set 0 (Ai (X.sd 0) (Dz (X.sd 0).end_))) (own 1) w3)
 have hS3:w3.heap[gp]? = some (.cells (BK X ge lv wv) 143 (0,0)) ∧ w3.heap[w.heap.size]? = some (.cells #[.int .i64 kind,.int .i64 0,.int .i64 i,vb] 72 (0,0)):=⟨Ap hHeld.1 ht.2.1 (H.out.Hl _),Ap hHeld.2 ht.2.1 (fun hx => by have:=H.out.lt _ _ hx; omega)⟩
 exact Z54
theorem open_1 {w:World} {B gp:Nat} {ge:Nat → Nat} {own:Nat → Nat → Prop} {X:Pr} {lv:Nat → Value} {wv:Value} (h:Dj w B gp ge own X lv wv) (hok:(X.sd 1).end_.Ok) (kind i:Int) (vb:Value) :
  Calls Try.prog 107 #[.pointer (some ⟨gp,0,none⟩),.agg #[.int .i64 kind,.int .i64 1,.int .i64 i,vb]] w fun e w' => e = .returned (.int .i64 (EK (X.sd 1).end_)) ∧ Moves w B gp ge own (X.set 1 (Ai (X.sd 1) (DN (X.sd 1).end_))) (own 2) w':=by
 have hba:Below w.heap.size w (w.alloc (.cells #[.int .i64 kind,.int .i64 1,.int .i64 i,vb] 72)):=(Below.refl _ _).alloc (Nat.le_refl _) _
 have H:=Lib.hid h
 have OK:=Lib.hid hok
 have hSS:(w.alloc (.cells #[.int .i64 kind,.int .i64 1,.int .i64 i,vb] 72)).drew.heap[gp]? = some (.cells (BK X ge lv wv) 143 (0,0)) ∧ (w.alloc (.cells #[.int .i64 kind,.int .i64 1,.int .i64 i,vb] 72)).drew.heap[w.heap.size]? = some (.cells #[.int .i64 kind,.int .i64 1,.int .i64 i,vb] 72 (0,0)):=⟨(h.sub (AZ hba)).blk,heap_alloc_new w _⟩
 have hbd:=AZ hba
 have EJ:=Lib.hid hSS
 have EM:=Lib.hid hbd
 clear h hok hba hSS hbd
 go_enter Try.func107,Try.ntmps107
 go_wp2_with fail
 have hSS:=EJ.out
 have hbd:=EM.out
 clear EJ EM
 refine BA (n:=10) (S:=fun w' => w'.heap[gp]? = some (.cells (BK X ge lv wv) 143 (0,0)) ∧ w'.heap[w.heap.size]? = some (.cells #[.int .i64 kind,.int .i64 1,.int .i64 i,vb] 72 (0,0))) (ds:=[]) pJ (by kernel_rfl) rfl rfl (hSS) (fun hHeld => ?_)
 generalize (w.alloc (.cells #[.int .i64 kind,.int .i64 1,.int .i64 i,vb] 72)).drew = w2 at hbd hHeld ⊢
 have BB:=Lib.hid hbd
 clear hbd
 refine pu 0 5 pK ?_
 refine pu 1 6 pM ?_
 refine tk 2 7 pO hHeld ?_ (hf:=by intro w' s0; have hc1:w'.cell? ⟨w.heap.size,1,none⟩ = some (.int .i64 1):=(AA s0.2 1).trans rfl; clear s0; go_simp; with_reducible rfl)
 refine pu 3 8 pR ?_
 refine pu 4 9 pU ?_
 refine pu 5 10 pV ?_
 refine pu 6 11 pW ?_
 refine tk 7 12 pX hHeld ?_ (hf:=by intro w' s0; have hc2:w'.cell? ⟨gp,9,none⟩ = some (.pointer (some ⟨ge 1,0,none⟩)):=(AA s0.1 9).trans rfl; clear s0; go_simp; rfl)
 refine on 8 (some 13) pY fun K hK => ?_
 have hQ2:=H.out.sub BB.out
 refine BH Try.func27 (by kernel_rfl) rfl #[.pointer (some ⟨ge 1,0,none⟩)] (by rfl) rfl rfl (by (try simp only [List.map_toArray,List.map_cons,List.map_nil]); first | done | rfl) ?_
 refine (Q5 (hQ2.e 1 (by decide)) hQ2.hB OK.out).mono ?_
 rintro e w3 ⟨rfl,ht⟩
 refine ⟨_,rfl,?_⟩
 have hT:=hQ2.turn (s:=1) (by decide) ht
 have HT:=Lib.hid (⟨_,lv,wv,hT,Grew.grow _ BB.out.size,(Kept.of_below BB.out _).BQ ht.2.1 (fun k hk => .inl hk),(BB.out.mono H.out.hB).trans ht.2.2⟩:Moves w B gp ge own (X.set 1 (Ai (X.sd 1) (DN (X.sd 1).end_))) (own 2) w3)
 have hS3:w3.heap[gp]? = some (.cells (BK X ge lv wv) 143 (0,0)) ∧ w3.heap[w.heap.size]? = some (.cells #[.int .i64 kind,.int .i64 1,.int .i64 i,vb] 72 (0,0)):=⟨Ap hHeld.1 ht.2.1 (H.out.Hl _),Ap hHeld.2 ht.2.1 (fun hx => by have:=H.out.lt _ _ hx; omega)⟩
 exact Z49
theorem jg {w:World} {B gp:Nat} {ge:Nat → Nat} {own:Nat → Nat → Prop} {X:Pr} {lv:Nat → Value} {wv:Value} (h:Dj w B gp ge own X lv wv) (hok:(X.sd 1).end_.Ok) (kind i:Int) (vb:Value) :
  Calls Try.prog 110 #[.pointer (some ⟨gp,0,none⟩),.agg #[.int .i64 kind,.int .i64 1,.int .i64 i,vb]] w fun e w' => e = .returned (.int .i64 0) ∧ Moves w B gp ge own (X.set 1 (Ai (X.sd 1) (Dz (X.sd 1).end_))) (own 2) w':=by
 have hba:Below w.heap.size w (w.alloc (.cells #[.int .i64 kind,.int .i64 1,.int .i64 i,vb] 72)):=(Below.refl _ _).alloc (Nat.le_refl _) _
 have H:=Lib.hid h
 have OK:=Lib.hid hok
 have hSS:(w.alloc (.cells #[.int .i64 kind,.int .i64 1,.int .i64 i,vb] 72)).drew.heap[gp]? = some (.cells (BK X ge lv wv) 143 (0,0)) ∧ (w.alloc (.cells #[.int .i64 kind,.int .i64 1,.int .i64 i,vb] 72)).drew.heap[w.heap.size]? = some (.cells #[.int .i64 kind,.int .i64 1,.int .i64 i,vb] 72 (0,0)):=⟨(h.sub (AZ hba)).blk,heap_alloc_new w _⟩
 have hbd:=AZ hba
 have EJ:=Lib.hid hSS
 have EM:=Lib.hid hbd
 clear h hok hba hSS hbd
 go_enter Try.func110,Try.ntmps110
 go_wp2_with fail
 have hSS:=EJ.out
 have hbd:=EM.out
 clear EJ EM
 refine BA (n:=9) (S:=fun w' => w'.heap[gp]? = some (.cells (BK X ge lv wv) 143 (0,0)) ∧ w'.heap[w.heap.size]? = some (.cells #[.int .i64 kind,.int .i64 1,.int .i64 i,vb] 72 (0,0))) (ds:=[]) Zu (by kernel_rfl) rfl rfl (hSS) (fun hHeld => ?_)
 generalize (w.alloc (.cells #[.int .i64 kind,.int .i64 1,.int .i64 i,vb] 72)).drew = w2 at hbd hHeld ⊢
 have BB:=Lib.hid hbd
 clear hbd
 refine pu 0 5 yG ?_
 refine pu 1 6 yH ?_
 refine tk 2 7 aP hHeld ?_ (hf:=by intro w' s0; have hc1:w'.cell? ⟨w.heap.size,1,none⟩ = some (.int .i64 1):=(AA s0.2 1).trans rfl; clear s0; go_simp; with_reducible rfl)
 refine pu 3 8 aQ ?_
 refine pu 4 9 Zv ?_
 refine pu 5 10 Zw ?_
 refine pu 6 11 Zx ?_
 refine tk 7 12 Zy hHeld ?_ (hf:=by intro w' s0; have hc2:w'.cell? ⟨gp,9,none⟩ = some (.pointer (some ⟨ge 1,0,none⟩)):=(AA s0.1 9).trans rfl; clear s0; go_simp; rfl)
 refine on 8 (some 13) Zz fun K hK => ?_
 have hQ2:=H.out.sub BB.out
 refine BH Try.func33 (by kernel_rfl) rfl #[.pointer (some ⟨ge 1,0,none⟩)] (by rfl) rfl rfl (by (try simp only [List.map_toArray,List.map_cons,List.map_nil]); first | done | rfl) ?_
 refine (VR (hQ2.e 1 (by decide)) OK.out hQ2.hB).mono ?_
 rintro e w3 ⟨rfl,ht⟩
 refine ⟨_,rfl,?_⟩
 have hT:=hQ2.turn (s:=1) (by decide) ht
 have HT:=Lib.hid (⟨_,lv,wv,hT,Grew.grow _ BB.out.size,(Kept.of_below BB.out _).BQ ht.2.1 (fun k hk => .inl hk),(BB.out.mono H.out.hB).trans ht.2.2⟩:Moves w B gp ge own (X.set 1 (Ai (X.sd 1) (Dz (X.sd 1).end_))) (own 2) w3)
 have hS3:w3.heap[gp]? = some (.cells (BK X ge lv wv) 143 (0,0)) ∧ w3.heap[w.heap.size]? = some (.cells #[.int .i64 kind,.int .i64 1,.int .i64 i,vb] 72 (0,0)):=⟨Ap hHeld.1 ht.2.1 (H.out.Hl _),Ap hHeld.2 ht.2.1 (fun hx => by have:=H.out.lt _ _ hx; omega)⟩
 exact Z54
theorem Pr.set_set (X:Pr) (s:Nat) (a b:Sd):(X.set s a).set s b = X.set s b:=by
 unfold Pr.set
 congr 1
 funext t
 by_cases h:t = s
 ·simp [h]
 ·simp [h]
theorem Moves.BQ {w w1 w2:World} {B gp:Nat} {ge:Nat → Nat} {own CQ:Nat → Nat → Prop} {X:Pr} {S S2:Nat → Prop} (hk:Kept w w1 S) (hb:Below B w w1) (ho:Grew w own CQ) (h:Moves w1 B gp ge CQ X S2 w2) (hs:∀ k,S2 k → S k ∨ w.heap.size ≤ k):Moves w B gp ge own X S w2:=by
 obtain ⟨o,lv,wv,h1,h2,h3,h4⟩:=h
 exact ⟨o,lv,wv,h1,ho.trans hk.1 h2,hk.BQ h3 hs,hb.trans h4⟩
def GH (d:Sd) (body:List Int):Sd:=if Bq d.end_ body.length = 0 then DZ (Ai d (Be d.end_ body)) 3 body else Ai d (Be d.end_ body)
theorem O1 {L:Lk} {n:Nat} (h:Bq L n = 0):n ≤ 1000000:=by
 unfold Bq at h
 split at h
 ·split at h
  ·exact absurd h (by decide)
  ·omega
 ·exact absurd h (by decide)
theorem Wq {w:World} {B gp:Nat} {ge:Nat → Nat} {own:Nat → Nat → Prop} {X:Pr} {lv:Nat → Value} {wv:Value} (h:Dj w B gp ge own X lv wv) (hok:(X.sd 0).end_.Ok) (kind i:Int) (body:List Int) (Ab:Option Addr) (cb:Nat) (hC:∀ W':World,Kept w W' (fun k => k = gp ∨ own 1 k ∨ own 3 k) → (Kd.int .u8).C W' Ab body.length body) (hll:(X.sd 0).log.length ≤ 1000000) (hE:¬ Bq (X.sd 0).end_ body.length = 0) :
  Calls Try.prog 109 #[.pointer (some ⟨gp,0,none⟩),.agg #[.int .i64 kind,.int .i64 0,.int .i64 i,.slice Ab body.length cb]] w fun e w' => e = .returned (.int .i64 (Bq (X.sd 0).end_ body.length)) ∧ Moves w B gp ge own (X.set 0 (Ai (X.sd 0) (Be (X.sd 0).end_ body))) (fun k => k = gp ∨ own 1 k ∨ own 3 k) w':=by
 have hba:Below w.heap.size w (w.alloc (.cells #[.int .i64 kind,.int .i64 0,.int .i64 i,.slice Ab body.length cb] 72)):=(Below.refl _ _).alloc (Nat.le_refl _) _
 have H:=Lib.hid h
 have OK:=Lib.hid hok
 have HC:=Lib.hid hC
 have Gv:=Lib.hid hll
 have HE:=Lib.hid hE
 have HB1:=Lib.hid hba
 have HA1:=Lib.hid (heap_alloc_new w (.cells #[.int .i64 kind,.int .i64 0,.int .i64 i,.slice Ab body.length cb] 72))
 have hc1:(w.alloc (.cells #[.int .i64 kind,.int .i64 0,.int .i64 i,.slice Ab body.length cb] 72)).cell? ⟨w.heap.size,1,none⟩ = some (.int .i64 0):=(AA HA1.out 1).trans rfl
 clear h hok hba hC hll hE
 generalize hnb:body.length = nb at *
 have Ez:=Lib.hid hnb
 clear hnb
 go_enter Try.func109,Try.ntmps109
 go_wp2_with fail
 go_quiet (fail)
 rename Nat => nq1
 go_wp2_with fail
 have hbd:=AZ (HB1.out.trans (Au (Below.refl _ _) nq1:Below w.heap.size (w.alloc (.cells #[.int .i64 kind,.int .i64 0,.int .i64 i,.slice Ab nb cb] 72)) _))
 have hSS:((w.alloc (.cells #[.int .i64 kind,.int .i64 0,.int .i64 i,.slice Ab nb cb] 72)).drewN nq1).drew.heap[gp]? = some (.cells (BK X ge lv wv) 143 (0,0)) ∧ ((w.alloc (.cells #[.int .i64 kind,.int .i64 0,.int .i64 i,.slice Ab nb cb] 72)).drewN nq1).drew.heap[w.heap.size]? = some (.cells #[.int .i64 kind,.int .i64 0,.int .i64 i,.slice Ab nb cb] 72 (0,0)):=⟨(H.out.sub hbd).blk,HA1.out⟩
 clear hc1 HB1 HA1
 refine BA (n:=8) (S:=fun w' => w'.heap[gp]? = some (.cells (BK X ge lv wv) 143 (0,0)) ∧ w'.heap[w.heap.size]? = some (.cells #[.int .i64 kind,.int .i64 0,.int .i64 i,.slice Ab nb cb] 72 (0,0))) (ds:=[]) pg (by kernel_rfl) rfl rfl (hSS) (fun hHeld => ?_)
 generalize ((w.alloc (.cells #[.int .i64 kind,.int .i64 0,.int .i64 i,.slice Ab nb cb] 72)).drewN nq1).drew = w2 at hbd hHeld ⊢
 have BB:=Lib.hid hbd
 clear hbd
 refine pu 0 13 pq ?_
 refine pu 1 14 wC ?_
 refine pu 2 15 wE ?_
 refine tk 3 16 wF hHeld ?_ (hf:=by intro w' s0; have hc2:w'.cell? ⟨gp,0,none⟩ = some (.pointer (some ⟨ge 0,0,none⟩)):=(AA s0.1 0).trans rfl; clear s0; go_simp; rfl)
 refine pu 4 17 pz ?_
 refine tk 5 18 qA hHeld ?_ (hf:=by intro w' s0; have hc3:w'.cell? ⟨w.heap.size,3,none⟩ = some (.slice Ab nb cb):=(AA s0.2 3).trans rfl; clear s0; go_simp; rfl)
 refine on 6 (some 19) qB fun K hK => ?_
 have hQ2:=H.out.sub BB.out
 refine BH Try.func30 (by kernel_rfl) rfl #[.pointer (some ⟨ge 0,0,none⟩),.slice Ab nb cb] (by rfl) rfl rfl (by (try simp only [List.map_toArray,List.map_cons,List.map_nil]); first | done | rfl) ?_
 have Bh:=KT (hQ2.e 0 (by decide)) hQ2.hB OK.out body Ab cb (by have:=HC.out w2 (Kept.of_below BB.out _); rwa [← Ez.out] at this)
 rw [Ez.out] at Bh
 refine Bh.mono ?_
 clear Bh
 rintro e w3 ⟨rfl,ht⟩
 refine ⟨_,rfl,?_⟩
 have hT:=hQ2.turn (s:=0) (by decide) ht
 have HT:=Lib.hid hT
 have UQ:=Lib.hid (((Kept.of_below BB.out _).BQ ht.2.1 (fun k hk => .inl (.inr (.inl hk)))):Kept w w3 (fun k => k = gp ∨ own 1 k ∨ own 3 k))
 have Gf:=Lib.hid ((BB.out.mono H.out.hB).trans ht.2.2)
 have zF:=Lib.hid (Nat.le_trans BB.out.size ht.2.1.1)
 have hS3:w3.heap[gp]? = some (.cells (BK X ge lv wv) 143 (0,0)) ∧ w3.heap[w.heap.size]? = some (.cells #[.int .i64 kind,.int .i64 0,.int .i64 i,.slice Ab nb cb] 72 (0,0)):=⟨Ap hHeld.1 ht.2.1 (H.out.Hl _),Ap hHeld.2 ht.2.1 (fun hx => by have:=H.out.lt _ _ hx; omega)⟩
 have I4:=Lib.hid hS3
 clear hT ht hQ2 hHeld
 refine hK.out _ _ hS3 (fun hHeld => ?_)
 clear hK K hS3
 refine nm 19 ?_
 refine pu 7 6 qC ?_
 refine BG (by kernel_rfl) ?_
 clear hHeld
 have hse:(Bq (X.sd 0).end_ nb == 0) = false:=by simp [HE.out]
 go_wp2_with fail
 all_goals (go_ret; exact ⟨rfl,_,lv,wv,HT.out,Grew.grow _ BB.out.size,UQ.out,Gf.out⟩)
theorem Z41 {p:Prop} (h:p:=by
 have hM:=HM.out
 rw [Pr.set_set,Pr.Ae] at hM
 exact Moves.BQ UQ.out Gf.out (Grew.grow _ BB.out.size) hM (fun k hk => hk.elim (fun x => .inl (.inl x)) (fun x => x.elim (fun y => .inl (.inr (.inr y))) (fun y => .inr (by have:=BB.out.size; omega))))):p:=h
theorem Ws {w:World} {B gp:Nat} {ge:Nat → Nat} {own:Nat → Nat → Prop} {X:Pr} {lv:Nat → Value} {wv:Value} (h:Dj w B gp ge own X lv wv) (hok:(X.sd 0).end_.Ok) (kind i:Int) (body:List Int) (Ab:Option Addr) (cb:Nat) (hC:∀ W':World,Kept w W' (fun k => k = gp ∨ own 1 k ∨ own 3 k) → (Kd.int .u8).C W' Ab body.length body) (hll:(X.sd 0).log.length ≤ 1000000) (hE:Bq (X.sd 0).end_ body.length = 0) :
  Calls Try.prog 109 #[.pointer (some ⟨gp,0,none⟩),.agg #[.int .i64 kind,.int .i64 0,.int .i64 i,.slice Ab body.length cb]] w fun e w' => e = .returned (.int .i64 (Bq (X.sd 0).end_ body.length)) ∧ Moves w B gp ge own (X.set 0 (DZ (Ai (X.sd 0) (Be (X.sd 0).end_ body)) 3 body)) (fun k => k = gp ∨ own 1 k ∨ own 3 k) w':=by
 have hba:Below w.heap.size w (w.alloc (.cells #[.int .i64 kind,.int .i64 0,.int .i64 i,.slice Ab body.length cb] 72)):=(Below.refl _ _).alloc (Nat.le_refl _) _
 have H:=Lib.hid h
 have OK:=Lib.hid hok
 have HC:=Lib.hid hC
 have FP:=Lib.hid (O1 hE)
 have Gv:=Lib.hid hll
 have HE:=Lib.hid hE
 have HB1:=Lib.hid hba
 have HA1:=Lib.hid (heap_alloc_new w (.cells #[.int .i64 kind,.int .i64 0,.int .i64 i,.slice Ab body.length cb] 72))
 have hc1:(w.alloc (.cells #[.int .i64 kind,.int .i64 0,.int .i64 i,.slice Ab body.length cb] 72)).cell? ⟨w.heap.size,1,none⟩ = some (.int .i64 0):=(AA HA1.out 1).trans rfl
 clear h hok hba hC hll hE
 generalize hnb:body.length = nb at *
 have Ez:=Lib.hid hnb
 clear hnb
 go_enter Try.func109,Try.ntmps109
 go_wp2_with fail
 go_quiet (fail)
 rename Nat => nq1
 go_wp2_with fail
 have hbd:=AZ (HB1.out.trans (Au (Below.refl _ _) nq1:Below w.heap.size (w.alloc (.cells #[.int .i64 kind,.int .i64 0,.int .i64 i,.slice Ab nb cb] 72)) _))
 have hSS:((w.alloc (.cells #[.int .i64 kind,.int .i64 0,.int .i64 i,.slice Ab nb cb] 72)).drewN nq1).drew.heap[gp]? = some (.cells (BK X ge lv wv) 143 (0,0)) ∧ ((w.alloc (.cells #[.int .i64 kind,.int .i64 0,.int .i64 i,.slice Ab nb cb] 72)).drewN nq1).drew.heap[w.heap.size]? = some (.cells #[.int .i64 kind,.int .i64 0,.int .i64 i,.slice Ab nb cb] 72 (0,0)):=⟨(H.out.sub hbd).blk,HA1.out⟩
 clear hc1 HB1 HA1
 refine BA (n:=8) (S:=fun w' => w'.heap[gp]? = some (.cells (BK X ge lv wv) 143 (0,0)) ∧ w'.heap[w.heap.size]? = some (.cells #[.int .i64 kind,.int .i64 0,.int .i64 i,.slice Ab nb cb] 72 (0,0))) (ds:=[]) pg (by kernel_rfl) rfl rfl (hSS) (fun hHeld => ?_)
 generalize ((w.alloc (.cells #[.int .i64 kind,.int .i64 0,.int .i64 i,.slice Ab nb cb] 72)).drewN nq1).drew = w2 at hbd hHeld ⊢
 have BB:=Lib.hid hbd
 clear hbd
 refine pu 0 13 pq ?_
 refine pu 1 14 wC ?_
 refine pu 2 15 wE ?_
 refine tk 3 16 wF hHeld ?_ (hf:=by intro w' s0; have hc2:w'.cell? ⟨gp,0,none⟩ = some (.pointer (some ⟨ge 0,0,none⟩)):=(AA s0.1 0).trans rfl; clear s0; go_simp; rfl)
 refine pu 4 17 pz ?_
 refine tk 5 18 qA hHeld ?_ (hf:=by intro w' s0; have hc3:w'.cell? ⟨w.heap.size,3,none⟩ = some (.slice Ab nb cb):=(AA s0.2 3).trans rfl; clear s0; go_simp; rfl)
 refine on 6 (some 19) qB fun K hK => ?_
 have hQ2:=H.out.sub BB.out
 refine BH Try.func30 (by kernel_rfl) rfl #[.pointer (some ⟨ge 0,0,none⟩),.slice Ab nb cb] (by rfl) rfl rfl (by (try simp only [List.map_toArray,List.map_cons,List.map_nil]); first | done | rfl) ?_
 have Bh:=KT (hQ2.e 0 (by decide)) hQ2.hB OK.out body Ab cb (by have:=HC.out w2 (Kept.of_below BB.out _); rwa [← Ez.out] at this)
 rw [Ez.out] at Bh
 refine Bh.mono ?_
 clear Bh
 rintro e w3 ⟨rfl,ht⟩
 refine ⟨_,rfl,?_⟩
 have hT:=hQ2.turn (s:=0) (by decide) ht
 have HT:=Lib.hid hT
 have UQ:=Lib.hid (((Kept.of_below BB.out _).BQ ht.2.1 (fun k hk => .inl (.inr (.inl hk)))):Kept w w3 (fun k => k = gp ∨ own 1 k ∨ own 3 k))
 have Gf:=Lib.hid ((BB.out.mono H.out.hB).trans ht.2.2)
 have zF:=Lib.hid (Nat.le_trans BB.out.size ht.2.1.1)
 have hS3:w3.heap[gp]? = some (.cells (BK X ge lv wv) 143 (0,0)) ∧ w3.heap[w.heap.size]? = some (.cells #[.int .i64 kind,.int .i64 0,.int .i64 i,.slice Ab nb cb] 72 (0,0)):=⟨Ap hHeld.1 ht.2.1 (H.out.Hl _),Ap hHeld.2 ht.2.1 (fun hx => by have:=H.out.lt _ _ hx; omega)⟩
 have I4:=Lib.hid hS3
 clear hT ht hQ2 hHeld
 refine hK.out _ _ hS3 (fun hHeld => ?_)
 clear hK K hS3
 refine nm 19 ?_
 refine pu 7 6 qC ?_
 refine BG (by kernel_rfl) ?_
 clear hHeld
 have hse:=HE.out
 have MF:=Lib.hid hse
 rw [hse]
 clear hse
 have hc3:w3.cell? ⟨w.heap.size,3,none⟩ = some (.slice Ab nb cb):=(AA I4.out.2 3).trans rfl
 go_wp2_with (go_at_call 127; (have Bh:=LV HT.out 3 body Ab cb (by have:=HC.out w3 UQ.out; rwa [← Ez.out] at this) (by rw [Ez.out]; exact FP.out) (by rw [Pr.Ae]; exact Gv.out)); rw [Ez.out] at Bh; (with_reducible refine Bh.mono ?_); clear Bh; rintro e w4 ⟨rfl,hM⟩; (have HM:=Lib.hid hM); clear hM)
 all_goals (go_ret; refine ⟨(by rw [MF.out]; rfl),?_⟩)
 exact Z41
theorem Wu {w:World} {B gp:Nat} {ge:Nat → Nat} {own:Nat → Nat → Prop} {X:Pr} {lv:Nat → Value} {wv:Value} (h:Dj w B gp ge own X lv wv) (hok:(X.sd 1).end_.Ok) (kind i:Int) (body:List Int) (Ab:Option Addr) (cb:Nat) (hC:∀ W':World,Kept w W' (fun k => k = gp ∨ own 2 k ∨ own 4 k) → (Kd.int .u8).C W' Ab body.length body) (hll:(X.sd 1).log.length ≤ 1000000) (hE:¬ Bq (X.sd 1).end_ body.length = 0) :
  Calls Try.prog 109 #[.pointer (some ⟨gp,0,none⟩),.agg #[.int .i64 kind,.int .i64 1,.int .i64 i,.slice Ab body.length cb]] w fun e w' => e = .returned (.int .i64 (Bq (X.sd 1).end_ body.length)) ∧ Moves w B gp ge own (X.set 1 (Ai (X.sd 1) (Be (X.sd 1).end_ body))) (fun k => k = gp ∨ own 2 k ∨ own 4 k) w':=by
 have hba:Below w.heap.size w (w.alloc (.cells #[.int .i64 kind,.int .i64 1,.int .i64 i,.slice Ab body.length cb] 72)):=(Below.refl _ _).alloc (Nat.le_refl _) _
 have H:=Lib.hid h
 have OK:=Lib.hid hok
 have HC:=Lib.hid hC
 have Gv:=Lib.hid hll
 have HE:=Lib.hid hE
 have HB1:=Lib.hid hba
 have HA1:=Lib.hid (heap_alloc_new w (.cells #[.int .i64 kind,.int .i64 1,.int .i64 i,.slice Ab body.length cb] 72))
 have hc1:(w.alloc (.cells #[.int .i64 kind,.int .i64 1,.int .i64 i,.slice Ab body.length cb] 72)).cell? ⟨w.heap.size,1,none⟩ = some (.int .i64 1):=(AA HA1.out 1).trans rfl
 clear h hok hba hC hll hE
 generalize hnb:body.length = nb at *
 have Ez:=Lib.hid hnb
 clear hnb
 go_enter Try.func109,Try.ntmps109
 go_wp2_with fail
 go_quiet (fail)
 rename Nat => nq1
 go_wp2_with fail
 have hbd:=AZ (HB1.out.trans (Au (Below.refl _ _) nq1:Below w.heap.size (w.alloc (.cells #[.int .i64 kind,.int .i64 1,.int .i64 i,.slice Ab nb cb] 72)) _))
 have hSS:((w.alloc (.cells #[.int .i64 kind,.int .i64 1,.int .i64 i,.slice Ab nb cb] 72)).drewN nq1).drew.heap[gp]? = some (.cells (BK X ge lv wv) 143 (0,0)) ∧ ((w.alloc (.cells #[.int .i64 kind,.int .i64 1,.int .i64 i,.slice Ab nb cb] 72)).drewN nq1).drew.heap[w.heap.size]? = some (.cells #[.int .i64 kind,.int .i64 1,.int .i64 i,.slice Ab nb cb] 72 (0,0)):=⟨(H.out.sub hbd).blk,HA1.out⟩
 clear hc1 HB1 HA1
 refine BA (n:=8) (S:=fun w' => w'.heap[gp]? = some (.cells (BK X ge lv wv) 143 (0,0)) ∧ w'.heap[w.heap.size]? = some (.cells #[.int .i64 kind,.int .i64 1,.int .i64 i,.slice Ab nb cb] 72 (0,0))) (ds:=[]) pg (by kernel_rfl) rfl rfl (hSS) (fun hHeld => ?_)
 generalize ((w.alloc (.cells #[.int .i64 kind,.int .i64 1,.int .i64 i,.slice Ab nb cb] 72)).drewN nq1).drew = w2 at hbd hHeld ⊢
 have BB:=Lib.hid hbd
 clear hbd
 refine pu 0 13 pq ?_
 refine pu 1 14 wC ?_
 refine pu 2 15 wE ?_
 refine tk 3 16 wF hHeld ?_ (hf:=by intro w' s0; have hc2:w'.cell? ⟨gp,9,none⟩ = some (.pointer (some ⟨ge 1,0,none⟩)):=(AA s0.1 9).trans rfl; clear s0; go_simp; rfl)
 refine pu 4 17 pz ?_
 refine tk 5 18 qA hHeld ?_ (hf:=by intro w' s0; have hc3:w'.cell? ⟨w.heap.size,3,none⟩ = some (.slice Ab nb cb):=(AA s0.2 3).trans rfl; clear s0; go_simp; rfl)
 refine on 6 (some 19) qB fun K hK => ?_
 have hQ2:=H.out.sub BB.out
 refine BH Try.func30 (by kernel_rfl) rfl #[.pointer (some ⟨ge 1,0,none⟩),.slice Ab nb cb] (by rfl) rfl rfl (by (try simp only [List.map_toArray,List.map_cons,List.map_nil]); first | done | rfl) ?_
 have Bh:=KT (hQ2.e 1 (by decide)) hQ2.hB OK.out body Ab cb (by have:=HC.out w2 (Kept.of_below BB.out _); rwa [← Ez.out] at this)
 rw [Ez.out] at Bh
 refine Bh.mono ?_
 clear Bh
 rintro e w3 ⟨rfl,ht⟩
 refine ⟨_,rfl,?_⟩
 have hT:=hQ2.turn (s:=1) (by decide) ht
 have HT:=Lib.hid hT
 have UQ:=Lib.hid (((Kept.of_below BB.out _).BQ ht.2.1 (fun k hk => .inl (.inr (.inl hk)))):Kept w w3 (fun k => k = gp ∨ own 2 k ∨ own 4 k))
 have Gf:=Lib.hid ((BB.out.mono H.out.hB).trans ht.2.2)
 have zF:=Lib.hid (Nat.le_trans BB.out.size ht.2.1.1)
 have hS3:w3.heap[gp]? = some (.cells (BK X ge lv wv) 143 (0,0)) ∧ w3.heap[w.heap.size]? = some (.cells #[.int .i64 kind,.int .i64 1,.int .i64 i,.slice Ab nb cb] 72 (0,0)):=⟨Ap hHeld.1 ht.2.1 (H.out.Hl _),Ap hHeld.2 ht.2.1 (fun hx => by have:=H.out.lt _ _ hx; omega)⟩
 have I4:=Lib.hid hS3
 clear hT ht hQ2 hHeld
 refine hK.out _ _ hS3 (fun hHeld => ?_)
 clear hK K hS3
 refine nm 19 ?_
 refine pu 7 6 qC ?_
 refine BG (by kernel_rfl) ?_
 clear hHeld
 have hse:(Bq (X.sd 1).end_ nb == 0) = false:=by simp [HE.out]
 go_wp2_with fail
 all_goals (go_ret; exact ⟨rfl,_,lv,wv,HT.out,Grew.grow _ BB.out.size,UQ.out,Gf.out⟩)
theorem Wv {w:World} {B gp:Nat} {ge:Nat → Nat} {own:Nat → Nat → Prop} {X:Pr} {lv:Nat → Value} {wv:Value} (h:Dj w B gp ge own X lv wv) (hok:(X.sd 1).end_.Ok) (kind i:Int) (body:List Int) (Ab:Option Addr) (cb:Nat) (hC:∀ W':World,Kept w W' (fun k => k = gp ∨ own 2 k ∨ own 4 k) → (Kd.int .u8).C W' Ab body.length body) (hll:(X.sd 1).log.length ≤ 1000000) (hE:Bq (X.sd 1).end_ body.length = 0) :
  Calls Try.prog 109 #[.pointer (some ⟨gp,0,none⟩),.agg #[.int .i64 kind,.int .i64 1,.int .i64 i,.slice Ab body.length cb]] w fun e w' => e = .returned (.int .i64 (Bq (X.sd 1).end_ body.length)) ∧ Moves w B gp ge own (X.set 1 (DZ (Ai (X.sd 1) (Be (X.sd 1).end_ body)) 3 body)) (fun k => k = gp ∨ own 2 k ∨ own 4 k) w':=by
 have hba:Below w.heap.size w (w.alloc (.cells #[.int .i64 kind,.int .i64 1,.int .i64 i,.slice Ab body.length cb] 72)):=(Below.refl _ _).alloc (Nat.le_refl _) _
 have H:=Lib.hid h
 have OK:=Lib.hid hok
 have HC:=Lib.hid hC
 have FP:=Lib.hid (O1 hE)
 have Gv:=Lib.hid hll
 have HE:=Lib.hid hE
 have HB1:=Lib.hid hba
 have HA1:=Lib.hid (heap_alloc_new w (.cells #[.int .i64 kind,.int .i64 1,.int .i64 i,.slice Ab body.length cb] 72))
 have hc1:(w.alloc (.cells #[.int .i64 kind,.int .i64 1,.int .i64 i,.slice Ab body.length cb] 72)).cell? ⟨w.heap.size,1,none⟩ = some (.int .i64 1):=(AA HA1.out 1).trans rfl
 clear h hok hba hC hll hE
 generalize hnb:body.length = nb at *
 have Ez:=Lib.hid hnb
 clear hnb
 go_enter Try.func109,Try.ntmps109
 go_wp2_with fail
 go_quiet (fail)
 rename Nat => nq1
 go_wp2_with fail
 have hbd:=AZ (HB1.out.trans (Au (Below.refl _ _) nq1:Below w.heap.size (w.alloc (.cells #[.int .i64 kind,.int .i64 1,.int .i64 i,.slice Ab nb cb] 72)) _))
 have hSS:((w.alloc (.cells #[.int .i64 kind,.int .i64 1,.int .i64 i,.slice Ab nb cb] 72)).drewN nq1).drew.heap[gp]? = some (.cells (BK X ge lv wv) 143 (0,0)) ∧ ((w.alloc (.cells #[.int .i64 kind,.int .i64 1,.int .i64 i,.slice Ab nb cb] 72)).drewN nq1).drew.heap[w.heap.size]? = some (.cells #[.int .i64 kind,.int .i64 1,.int .i64 i,.slice Ab nb cb] 72 (0,0)):=⟨(H.out.sub hbd).blk,HA1.out⟩
 clear hc1 HB1 HA1
 refine BA (n:=8) (S:=fun w' => w'.heap[gp]? = some (.cells (BK X ge lv wv) 143 (0,0)) ∧ w'.heap[w.heap.size]? = some (.cells #[.int .i64 kind,.int .i64 1,.int .i64 i,.slice Ab nb cb] 72 (0,0))) (ds:=[]) pg (by kernel_rfl) rfl rfl (hSS) (fun hHeld => ?_)
 generalize ((w.alloc (.cells #[.int .i64 kind,.int .i64 1,.int .i64 i,.slice Ab nb cb] 72)).drewN nq1).drew = w2 at hbd hHeld ⊢
 have BB:=Lib.hid hbd
 clear hbd
 refine pu 0 13 pq ?_
 refine pu 1 14 wC ?_
 refine pu 2 15 wE ?_
 refine tk 3 16 wF hHeld ?_ (hf:=by intro w' s0; have hc2:w'.cell? ⟨gp,9,none⟩ = some (.pointer (some ⟨ge 1,0,none⟩)):=(AA s0.1 9).trans rfl; clear s0; go_simp; rfl)
 refine pu 4 17 pz ?_
 refine tk 5 18 qA hHeld ?_ (hf:=by intro w' s0; have hc3:w'.cell? ⟨w.heap.size,3,none⟩ = some (.slice Ab nb cb):=(AA s0.2 3).trans rfl; clear s0; go_simp; rfl)
 refine on 6 (some 19) qB fun K hK => ?_
 have hQ2:=H.out.sub BB.out
 refine BH Try.func30 (by kernel_rfl) rfl #[.pointer (some ⟨ge 1,0,none⟩),.slice Ab nb cb] (by rfl) rfl rfl (by (try simp only [List.map_toArray,List.map_cons,List.map_nil]); first | done | rfl) ?_
 have Bh:=KT (hQ2.e 1 (by decide)) hQ2.hB OK.out body Ab cb (by have:=HC.out w2 (Kept.of_below BB.out _); rwa [← Ez.out] at this)
 rw [Ez.out] at Bh
 refine Bh.mono ?_
 clear Bh
 rintro e w3 ⟨rfl,ht⟩
 refine ⟨_,rfl,?_⟩
 have hT:=hQ2.turn (s:=1) (by decide) ht
 have HT:=Lib.hid hT
 have UQ:=Lib.hid (((Kept.of_below BB.out _).BQ ht.2.1 (fun k hk => .inl (.inr (.inl hk)))):Kept w w3 (fun k => k = gp ∨ own 2 k ∨ own 4 k))
 have Gf:=Lib.hid ((BB.out.mono H.out.hB).trans ht.2.2)
 have zF:=Lib.hid (Nat.le_trans BB.out.size ht.2.1.1)
 have hS3:w3.heap[gp]? = some (.cells (BK X ge lv wv) 143 (0,0)) ∧ w3.heap[w.heap.size]? = some (.cells #[.int .i64 kind,.int .i64 1,.int .i64 i,.slice Ab nb cb] 72 (0,0)):=⟨Ap hHeld.1 ht.2.1 (H.out.Hl _),Ap hHeld.2 ht.2.1 (fun hx => by have:=H.out.lt _ _ hx; omega)⟩
 have I4:=Lib.hid hS3
 clear hT ht hQ2 hHeld
 refine hK.out _ _ hS3 (fun hHeld => ?_)
 clear hK K hS3
 refine nm 19 ?_
 refine pu 7 6 qC ?_
 refine BG (by kernel_rfl) ?_
 clear hHeld
 have hse:=HE.out
 have MF:=Lib.hid hse
 rw [hse]
 clear hse
 have hc3:w3.cell? ⟨w.heap.size,3,none⟩ = some (.slice Ab nb cb):=(AA I4.out.2 3).trans rfl
 go_wp2_with (go_at_call 127; (have Bh:=LW HT.out 3 body Ab cb (by have:=HC.out w3 UQ.out; rwa [← Ez.out] at this) (by rw [Ez.out]; exact FP.out) (by rw [Pr.Ae]; exact Gv.out)); rw [Ez.out] at Bh; (with_reducible refine Bh.mono ?_); clear Bh; rintro e w4 ⟨rfl,hM⟩; (have HM:=Lib.hid hM); clear hM)
 all_goals (go_ret; refine ⟨(by rw [MF.out]; rfl),?_⟩)
 exact Z41
end Go.Proofs.Ytnkkgofpifhoeaa.Pr
end
section
namespace Go.Proofs.Ytnkkgofpifhoeaa.Pr
open Go.RowKit Go.Proofs.Ytnkkgofpifhoeaa.Base Go.Proofs.Ytnkkgofpifhoeaa.Steps Go.Proofs.Ytnkkgofpifhoeaa.Lk Go.Proofs.Ytnkkgofpifhoeaa.Fg Go.Proofs.YtnkkgofpifhoeaaW.PrintWords
def O3 (own:Nat → Nat → Prop) (i:Nat) (okb:Nat → Prop) (w w':World):Nat → Nat → Prop:=fun j k => own j k ∨ j = i ∧ w.heap.size ≤ k ∧ k < w'.heap.size ∧ ¬ okb k
theorem Grew.O3 {w w2 w3:World} {own:Nat → Nat → Prop} {okb:Nat → Prop} (i:Nat) (h:w.heap.size ≤ w2.heap.size):Grew w own (O3 own i okb w2 w3):=⟨fun _ _ h => .inl h,fun _ _ hx => hx.elim .inl (fun y => .inr (Nat.le_trans h y.2.1))⟩
section
variable {w w':World} {B gp:Nat} {ge:Nat → Nat} {own:Nat → Nat → Prop} {X:Pr} {lv:Nat → Value} {wv:Value} (h:Dj w B gp ge own X lv wv)
include h
theorem Dj.fJ {s:Nat} (hs:s < 2) {L:Lk} {okb:Nat → Prop} (hE:Lk.End w' B (fun k => own (1 + s) k ∨ (w.heap.size ≤ k ∧ k < w'.heap.size ∧ ¬ okb k)) (ge s) L) (hk:Kept w w' (own (1 + s))):Dj w' B gp ge (O3 own (1 + s) okb w w') (X.set s (Ai (X.sd s) L)) lv wv:=by
 have hz:=hk.1
 have hin:∀ j k,O3 own (1 + s) okb w w' j k → grow own (1 + s) w w' j k:=fun j k hx => hx.elim .inl (fun y => .inr ⟨y.1,y.2.1,y.2.2.1⟩)
 have hrow:BK (X.set s (Ai (X.sd s) L)) ge lv wv = BK X ge lv wv:=by
  have h0:s = 0 ∨ s = 1:=by omega
  rcases h0 with rfl | rfl <;> rfl
 refine ⟨hrow ▸ Ap h.blk hk (h.Hl _),h.low,fun i hi => MQ (w':=w') h (1 + s) i (hin _ _ hi),fun i j k hi hj => JQ (w':=w') h (1 + s) i j k (hin _ _ hi) (hin _ _ hj),fun i k hi => MR h (1 + s) hz i k (hin _ _ hi),fun t ht' => ?_,fun t ht' => ?_,(h.way.kept hk (fun k hx hy => by have:=h.EF 5 (1 + s) k hx hy; omega)).mono (fun k hx => .inl hx)⟩
 ·by_cases hts:t = s
  ·subst hts
   rw [Pr.Ae]
   exact hE.mono (fun k hx => hx.elim .inl (fun hn => .inr ⟨rfl,hn⟩))
  ·rw [Pr.BP X hts]
   exact ((h.e t ht').kept hk (fun k hx hy => by have:=h.EF (1 + t) (1 + s) k hx hy; omega)).mono (fun k hx => .inl hx)
 ·have:((X.set s (Ai (X.sd s) L)).sd t).log = (X.sd t).log:=by
   by_cases hts:t = s
   ·subst hts; rw [Pr.Ae]; rfl
   ·rw [Pr.BP X hts]
  rw [this]
  exact Kd.BV (Kd.BJ (h.l t ht') hk (fun k hx hy => by have:=h.EF (3 + t) (1 + s) k hx hy; omega)) (fun k hx => .inl hx)
theorem Dj.IX {X':Pr} (hb:w'.heap[gp]? = some (.cells (BK X' ge lv wv) 143 (0,0))) (hk:Kept w w' (fun k => k = gp)) (he:∀ s,(X'.sd s).end_ = (X.sd s).end_) (hl:∀ s,(X'.sd s).log = (X.sd s).log) (hw:X'.way = X.way):Dj w' B gp ge own X' lv wv:=by
 have hd:∀ i k,own i k → ¬ k = gp:=fun i k hi he => h.Hl i (he ▸ hi)
 refine ⟨hb,h.low,h.Hl,h.EF,fun i k hx => Nat.lt_of_lt_of_le (h.lt i k hx) hk.1,fun s hs => ?_,fun s hs => ?_,?_⟩
 ·rw [he]; exact (h.e s hs).kept hk (hd _)
 ·rw [hl]; exact Kd.BJ (h.l s hs) hk (hd _)
 ·rw [hw]; exact h.way.kept hk (hd _)
end
structure DV (w:World) (B gp:Nat) (ge:Nat → Nat) (own:Nat → Nat → Prop) (X:Pr) (S:Nat → Prop) (g7:Nat) (vb:Value) (body:List Int) (cs:Array Value) (wz:World) (own':Nat → Nat → Prop) (lv:Nat → Value) (wv:Value) (okb:Nat → Prop):Prop where
 at_:Dj wz B gp ge own' X lv wv
 grew:Grew w own own'
 row:(Kd.int .u8).R 5 wz B okb vb body
 ap:∀ k,okb k → k ≠ gp ∧ ∀ i,¬ own' i k
 t7:wz.heap[g7]? = some (.cells cs 56 (0,0))
 n7:g7 ≠ gp ∧ (∀ i,¬ own' i g7) ∧ ¬ okb g7
 kept:Kept w wz S
 below:Below B w wz
 jh:w.heap.size ≤ g7
def aI (w:World) (B gp:Nat) (ge:Nat → Nat) (own:Nat → Nat → Prop) (X:Pr) (S:Nat → Prop) (g7:Nat) (vb:Value) (body:List Int) (cs:Array Value) (wz:World):Prop:=∃ own' lv wv okb,DV w B gp ge own X S g7 vb body cs wz own' lv wv okb
section
variable {w W w':World} {B gp s g7:Nat} {ge:Nat → Nat} {own CQ:Nat → Nat → Prop} {X1:Pr} {S:Nat → Prop} {Ho:Nat → Value} {wv1:Value} {L':Lk} {hd up dn:Bool} {body:List Int} {e:Ending} {cs:Array Value}
theorem DV.ahead (hs:s < 2) (hP:Dj W B gp ge CQ X1 Ho wv1) (hg:Grew w own CQ) (hk:Kept w W S) (hb:Below B w W) (hS:∀ k,CQ (1 + s) k → S k ∨ w.heap.size ≤ k) (h7:W.heap[g7]? = some (.cells cs 56 (0,0))) (hn:g7 ≠ gp ∧ ∀ i,¬ CQ i g7) (hnew:w.heap.size ≤ g7) (hT:EW W B (CQ (1 + s)) (ge s) L' hd up dn body e w') :
  ∃ vb,e = .returned (.tuple #[.agg #[.bool hd,.bool up,.bool dn,vb],.int .i64 0]) ∧ (∃ A c,vb = .slice A body.length c) ∧ aI w B gp ge own (X1.set s (Ai (X1.sd s) L')) S g7 vb body cs w':=by
 obtain ⟨vb,okb,he,hR,hok,hE,hK,hB2⟩:=hT
 have Fa:=AQ h7
 have KY:=AQ hP.blk
 refine ⟨vb,he,Kd.Am hR,_,Ho,wv1,okb,hP.fJ hs hE hK,hg.trans hk.1 (Grew.O3 _ (Nat.le_refl _)),hR,fun k hx => ?_,Ap h7 hK (hn.2 _),⟨hn.1,fun i hi => ?_,fun hx => by have:=hok _ hx; omega⟩,hk.BQ hK hS,hb.trans hB2,hnew⟩
 ·have h1:=hok k hx
  refine ⟨by omega,fun i hi => ?_⟩
  rcases hi with hi | hi
  ·have:=hP.lt i k hi; omega
  ·exact hi.2.2.2 hx
 ·rcases hi with hi | hi
  ·exact hn.2 i hi
  ·omega
theorem DV.behind (hs:s < 2) (hP:Dj W B gp ge CQ X1 Ho wv1) (hg:Grew w own CQ) (hk:Kept w W S) (hb:Below B w W) (hS:∀ k,CQ (1 + s) k → S k ∨ w.heap.size ≤ k) (hT:EW W B (CQ (1 + s)) (ge s) L' hd up dn body e w') :
  ∃ vb,e = .returned (.tuple #[.agg #[.bool hd,.bool up,.bool dn,vb],.int .i64 0]) ∧ (∃ A c,vb = .slice A body.length c) ∧ ∀ w4 g7,g7 = w'.heap.size → w4.heap[g7]? = some (.cells cs 56 (0,0)) → Below w'.heap.size w' w4 → aI w B gp ge own (X1.set s (Ai (X1.sd s) L')) S g7 vb body cs w4:=by
 obtain ⟨vb,okb,he,hR,hok,hE,hK,hB2⟩:=hT
 have hP2:=hP.fJ hs hE hK
 have hz:=hK.1
 have hz0:=hk.1
 refine ⟨vb,he,Kd.Am hR,fun w4 g7 h7 h8 hb4 => ⟨_,Ho,wv1,okb,hP2.sub hb4,hg.trans hk.1 (Grew.O3 _ (Nat.le_refl _)),Kd.Ee hR hb4,fun k hx => ?_,h8,⟨?_,fun i hi => ?_,fun hx => ?_⟩,(hk.BQ hK hS).below hb4,(hb.trans hB2).trans (hb4.mono (hP2.hB)),by omega⟩⟩
 ·have h1:=hok k hx
  have KY:=AQ hP.blk
  refine ⟨by omega,fun i hi => ?_⟩
  rcases hi with hi | hi
  ·have:=hP.lt i k hi; omega
  ·exact hi.2.2.2 hx
 ·have:=AQ hP2.blk; omega
 ·have:=hP2.lt i g7 hi; omega
 ·have:=hok _ hx; omega
end
section
variable {w wz w1:World} {B gp g7:Nat} {ge:Nat → Nat} {own own':Nat → Nat → Prop} {X X':Pr} {S okb:Nat → Prop} {lv:Nat → Value} {wv vb:Value} {body:List Int} {cs cs':Array Value} (h:DV w B gp ge own X S g7 vb body cs wz own' lv wv okb)
include h
theorem DV.sub (hb:Below wz.heap.size wz w1):DV w B gp ge own X S g7 vb body cs w1 own' lv wv okb :=
 ⟨h.at_.sub hb,h.grew,Kd.Ee h.row hb,h.ap,(hb.block g7 (AQ h.t7)).trans h.t7,h.n7,h.kept.below hb,h.below.trans (hb.mono h.at_.hB),h.jh⟩
theorem DV.write (hB:B ≤ w.heap.size) (hc:w1.heap[g7]? = some (.cells cs' 56 (0,0))) (ha:Steps.At g7 wz w1):DV w B gp ge own X S g7 vb body cs' w1 own' lv wv okb:=by
 have hk:=Dx ha
 have hn:=h.jh
 exact ⟨h.at_.kept hk (fun e => h.n7.1 e.symm) (fun i k hi e => h.n7.2.1 i (e ▸ hi)),h.grew,Kd.BJ h.row hk (fun k hx e => h.n7.2.2 (e ▸ hx)),h.ap,hc,h.n7,h.kept.BQ hk (fun k e => .inr (e ▸ hn)),ha.below h.below (Nat.le_trans hB hn),hn⟩
theorem DV.IX (hS:S gp) (hb:w1.heap[gp]? = some (.cells (BK X' ge lv wv) 143 (0,0))) (hk:Kept wz w1 (fun k => k = gp)) (hbl:Below B wz w1) (he:∀ s,(X'.sd s).end_ = (X.sd s).end_) (hl:∀ s,(X'.sd s).log = (X.sd s).log) (hw:X'.way = X.way):DV w B gp ge own X' S g7 vb body cs w1 own' lv wv okb :=
 ⟨h.at_.IX hb hk he hl hw,h.grew,Kd.BJ h.row hk (fun k hx e => (h.ap k hx).1 e),h.ap,Ap h.t7 hk h.n7.1,h.n7,h.kept.BQ hk (fun k e => .inl (e ▸ hS)),h.below.trans hbl,h.jh⟩
end
theorem VV {w:World} {g:Nat} {t:TypeId} {cs cs':Array Value} (h:w.heap[g]? = some (.cells cs t (0,0))) (o:Nat) (a b c d e f:Value) (he:(((((cs.setIfInBounds o a).setIfInBounds (o + 1) b).setIfInBounds (o + 2) c).setIfInBounds (o + 3) d).setIfInBounds (o + 4) e).setIfInBounds (o + 5) f = cs') {B:Nat} (hB:B ≤ g) :
  (w.setCells g o [a,b,c,d,e,f]).heap[g]? = some (.cells cs' t (0,0)) ∧ Kept w (w.setCells g o [a,b,c,d,e,f]) (fun k => k = g) ∧ Below B w (w.setCells g o [a,b,c,d,e,f]):=by
 refine ⟨?_,?_,?_⟩
 ·exact Af (Af (Af (Af (Af (Af h o a rfl) (o + 1) b rfl) (o + 2) c rfl) (o + 3) d rfl) (o + 4) e rfl) (o + 5) f he
 ·have k0:Kept w w (fun k => k = g):=Kept.refl _ _
  have k1:=Kept.setCell k0 (p:=⟨g,o,none⟩) (.inl rfl) a
  have k2:=Kept.setCell k1 (p:=⟨g,o + 1,none⟩) (.inl rfl) b
  have k3:=Kept.setCell k2 (p:=⟨g,o + 2,none⟩) (.inl rfl) c
  have k4:=Kept.setCell k3 (p:=⟨g,o + 3,none⟩) (.inl rfl) d
  have k5:=Kept.setCell k4 (p:=⟨g,o + 4,none⟩) (.inl rfl) e
  exact Kept.setCell k5 (p:=⟨g,o + 5,none⟩) (.inl rfl) f
 ·exact ((((((Below.refl B w).setCell (p:=⟨g,o,none⟩) hB _).setCell (p:=⟨g,o + 1,none⟩) hB _).setCell (p:=⟨g,o + 2,none⟩) hB _).setCell (p:=⟨g,o + 3,none⟩) hB _).setCell (p:=⟨g,o + 4,none⟩) hB _).setCell (p:=⟨g,o + 5,none⟩) hB _
theorem RN {w:World} {g:Nat} {t:TypeId} {cs:Array Value} (h:w.heap[g]? = some (.cells cs t (0,0))) (o n:Nat) (hn:o + n ≤ cs.size):w.there g o n:=fun j hj => by
 refine ⟨?_,AL h _⟩
 rw [AA h,Array.getElem?_eq_getElem (by omega)]
 rfl
def MV (d:Sd):Sd:={ d with last:=⟨0,d.AB,d.end_.token,if d.end_.known then d.end_.AB else 0,if d.end_.known then d.end_.yours else 0,[]⟩ }
def bI (d:Sd):Sd:={ d with last:=⟨0,d.AB,d.end_.token,0,0,[]⟩ }
def rH (d:Sd):Sd:={ d with last:=⟨0,d.AB,d.end_.token,if d.end_.known then d.end_.AB else 0,0,[]⟩ }
theorem I9 {op:Oper} {a:Act} {w w1:World} (ty:TypeId) (x y:Operand) (ho:op.op = .store ty x y) (b o:Nat) (cells:Array Value) (hx:a.eval x = .pointer (some ⟨b,o,none⟩)) (hy:a.eval y = .agg cells)
  (hrun:(Instr.storeAt ty (.pointer (some ⟨b,o,none⟩)) (.agg cells)).run Try.prog w = .ok () w1):(execOp a.eval op).run Try.prog w = .ok .skip w1:=by
 unfold execOp
 simp only [ho,hx,hy,Sem.run_bind,hrun,Result.andThen_ok,Sem.run_pure]
end Go.Proofs.Ytnkkgofpifhoeaa.Pr
end
section
namespace Go.Proofs.Ytnkkgofpifhoeaa.Pr
open Go.RowKit Go.Proofs.Ytnkkgofpifhoeaa.Base Go.Proofs.Ytnkkgofpifhoeaa.Steps Go.Proofs.Ytnkkgofpifhoeaa.Lk Go.Proofs.Ytnkkgofpifhoeaa.Fg Go.Proofs.YtnkkgofpifhoeaaW.PrintWords Go.Proofs.YtnkkgofpifhoeaaW.PrintLast
theorem ji {w:World} {B gp:Nat} {ge:Nat → Nat} {own:Nat → Nat → Prop} {X:Pr} {lv:Nat → Value} {wv:Value} (h:Dj w B gp ge own X lv wv) (i:Nat) (hi:i < X.way.length) (Fh:X.way.length ≤ 1024) (kind side:Int) (vb:Value) :
  Calls Try.prog 113 #[.pointer (some ⟨gp,0,none⟩),.agg #[.int .i64 kind,.int .i64 side,.int .i64 (i:Int),vb]] w fun e w' => e = .returned (.int .i64 0) ∧ Moves w B gp ge own { X with way:=X.way.eraseIdx i } (fun k => k = gp) w':=by
 have hba:Below w.heap.size w (w.alloc (.cells #[.int .i64 kind,.int .i64 side,.int .i64 (i:Int),vb] 72)):=(Below.refl _ _).alloc (Nat.le_refl _) _
 have hc2:(w.alloc (.cells #[.int .i64 kind,.int .i64 side,.int .i64 (i:Int),vb] 72)).cell? ⟨w.heap.size,2,none⟩ = some (.int .i64 (i:Int)):=(AA (heap_alloc_new w _) 2).trans rfl
 have H:=Lib.hid (h.sub hba)
 have HB:=Lib.hid hba
 have H0:=Lib.hid h
 have HI:=Lib.hid hi
 have HL:=Lib.hid Fh
 clear h hba hi Fh
 go_enter Try.func113,Try.ntmps113
 go_wp2_with (go_at_call 128; (have hc:=KW H.out i HI.out HL.out); (with_reducible refine hc.mono ?_); clear hc; rintro e w3 ⟨b,rfl,_,hM⟩; (have HM:=Lib.hid hM); clear hM)
 all_goals (go_ret; refine ⟨rfl,?_⟩)
 exact Moves.BQ (Kept.of_below HB.out _) (HB.out.mono H0.out.hB) (Grew.refl _ _) HM.out (fun k hk => .inl hk)
def GI (d:Sd):Sd:=if d.end_.phase = 2 then DZ (Ai d (Aa d.end_)) 2 [] else Ai d (Aa d.end_)
theorem Lu (w:World):(Kd.int .u8).C w none ([]:List Int).length []:=⟨rfl,by decide,fun h => absurd h (by decide)⟩
theorem Wx {w:World} {B gp:Nat} {ge:Nat → Nat} {own:Nat → Nat → Prop} {X:Pr} {lv:Nat → Value} {wv:Value} (h:Dj w B gp ge own X lv wv) (kind i:Int) (vb:Value) (hll:(X.sd 0).log.length ≤ 1000000) (hp:¬ (X.sd 0).end_.phase = 2) :
  Calls Try.prog 108 #[.pointer (some ⟨gp,0,none⟩),.agg #[.int .i64 kind,.int .i64 0,.int .i64 i,vb]] w fun e w' => e = .returned (.int .i64 0) ∧ Moves w B gp ge own (X.set 0 (Ai (X.sd 0) (Aa (X.sd 0).end_))) (fun k => k = gp ∨ own 1 k ∨ own 3 k) w':=by
 have hba:Below w.heap.size w (w.alloc (.cells #[.int .i64 kind,.int .i64 0,.int .i64 i,vb] 72)):=(Below.refl _ _).alloc (Nat.le_refl _) _
 have hc1:(w.alloc (.cells #[.int .i64 kind,.int .i64 0,.int .i64 i,vb] 72)).cell? ⟨w.heap.size,1,none⟩ = some (.int .i64 0):=(AA (heap_alloc_new w _) 1).trans rfl
 have hc2:(w.alloc (.cells #[.int .i64 kind,.int .i64 0,.int .i64 i,vb] 72)).cell? ⟨gp,0,none⟩ = some (.pointer (some ⟨ge 0,0,none⟩)):=(AA (h.sub hba).blk 0).trans rfl
 have H:=Lib.hid h
 have HB:=Lib.hid hba
 have Gv:=Lib.hid hll
 have hdp:decide ((X.sd 0).end_.phase = 2) = false:=by simp [hp]
 have jk:=Lib.hid hdp
 clear h hba hll hp hdp
 go_enter Try.func108,Try.ntmps108
 go_wp2_with fail
 go_quiet (fail)
 rename Nat => nq1
 have hb1:=HB.out.trans (Au (Below.refl _ _) nq1:Below w.heap.size (w.alloc (.cells #[.int .i64 kind,.int .i64 0,.int .i64 i,vb] 72)) _)
 have HB2:=Lib.hid hb1
 clear hb1
 go_wp2_with (first | (go_at_call 78; (have hc:=KR ((H.out.sub HB2.out).e 0 (by decide))); rw [jk.out] at hc; (with_reducible refine hc.mono ?_); clear hc; rintro e w3 ⟨rfl,ht⟩; (have HT:=Lib.hid ((H.out.sub HB2.out).turn (s:=0) (by decide) ht)); (have UQ:=Lib.hid (((Kept.of_below HB2.out _).BQ ht.2.1 (fun k hk => .inl (.inr (.inl hk)))):Kept w w3 (fun k => k = gp ∨ own 1 k ∨ own 3 k))); (have Gf:=Lib.hid ((HB2.out.mono H.out.hB).trans ht.2.2)); clear ht) | (go_at_call 127; (have Bh:Calls Try.prog 127 #[.pointer (some ⟨gp,0,none⟩),.int .i64 2,.slice none 0 0] w3 _:=LV HT.out 2 [] none 0 (Lu w3) (by decide) (by rw [Pr.Ae]; exact Gv.out)); (with_reducible refine Bh.mono ?_); clear Bh; rintro e w4 ⟨rfl,hM⟩; (have HM:=Lib.hid hM); clear hM))
 all_goals (go_ret; exact ⟨rfl,_,lv,wv,HT.out,Grew.grow _ HB2.out.size,UQ.out,Gf.out⟩)
theorem Z42 {p:Prop} (h:p:=by
 have hM:=HM.out
 rw [Pr.set_set,Pr.Ae] at hM
 exact Moves.BQ UQ.out Gf.out (Grew.grow _ HB2.out.size) hM (fun k hk => hk.elim (fun x => .inl (.inl x)) (fun x => x.elim (fun y => .inl (.inr (.inr y))) (fun y => .inr (by have:=HB2.out.size; omega))))):p:=h
theorem Wy {w:World} {B gp:Nat} {ge:Nat → Nat} {own:Nat → Nat → Prop} {X:Pr} {lv:Nat → Value} {wv:Value} (h:Dj w B gp ge own X lv wv) (kind i:Int) (vb:Value) (hll:(X.sd 0).log.length ≤ 1000000) (hp:(X.sd 0).end_.phase = 2) :
  Calls Try.prog 108 #[.pointer (some ⟨gp,0,none⟩),.agg #[.int .i64 kind,.int .i64 0,.int .i64 i,vb]] w fun e w' => e = .returned (.int .i64 0) ∧ Moves w B gp ge own (X.set 0 (DZ (Ai (X.sd 0) (Aa (X.sd 0).end_)) 2 [])) (fun k => k = gp ∨ own 1 k ∨ own 3 k) w':=by
 have hba:Below w.heap.size w (w.alloc (.cells #[.int .i64 kind,.int .i64 0,.int .i64 i,vb] 72)):=(Below.refl _ _).alloc (Nat.le_refl _) _
 have hc1:(w.alloc (.cells #[.int .i64 kind,.int .i64 0,.int .i64 i,vb] 72)).cell? ⟨w.heap.size,1,none⟩ = some (.int .i64 0):=(AA (heap_alloc_new w _) 1).trans rfl
 have hc2:(w.alloc (.cells #[.int .i64 kind,.int .i64 0,.int .i64 i,vb] 72)).cell? ⟨gp,0,none⟩ = some (.pointer (some ⟨ge 0,0,none⟩)):=(AA (h.sub hba).blk 0).trans rfl
 have H:=Lib.hid h
 have HB:=Lib.hid hba
 have Gv:=Lib.hid hll
 have hdp:decide ((X.sd 0).end_.phase = 2) = true:=by simp [hp]
 have jk:=Lib.hid hdp
 clear h hba hll hp hdp
 go_enter Try.func108,Try.ntmps108
 go_wp2_with fail
 go_quiet (fail)
 rename Nat => nq1
 have hb1:=HB.out.trans (Au (Below.refl _ _) nq1:Below w.heap.size (w.alloc (.cells #[.int .i64 kind,.int .i64 0,.int .i64 i,vb] 72)) _)
 have HB2:=Lib.hid hb1
 clear hb1
 go_wp2_with (first | (go_at_call 78; (have hc:=KR ((H.out.sub HB2.out).e 0 (by decide))); rw [jk.out] at hc; (with_reducible refine hc.mono ?_); clear hc; rintro e w3 ⟨rfl,ht⟩; (have HT:=Lib.hid ((H.out.sub HB2.out).turn (s:=0) (by decide) ht)); (have UQ:=Lib.hid (((Kept.of_below HB2.out _).BQ ht.2.1 (fun k hk => .inl (.inr (.inl hk)))):Kept w w3 (fun k => k = gp ∨ own 1 k ∨ own 3 k))); (have Gf:=Lib.hid ((HB2.out.mono H.out.hB).trans ht.2.2)); clear ht) | (go_at_call 127; (have Bh:Calls Try.prog 127 #[.pointer (some ⟨gp,0,none⟩),.int .i64 2,.slice none 0 0] w3 _:=LV HT.out 2 [] none 0 (Lu w3) (by decide) (by rw [Pr.Ae]; exact Gv.out)); (with_reducible refine Bh.mono ?_); clear Bh; rintro e w4 ⟨rfl,hM⟩; (have HM:=Lib.hid hM); clear hM))
 all_goals (go_ret; refine ⟨rfl,?_⟩)
 exact Z42
theorem W9 {w:World} {B gp:Nat} {ge:Nat → Nat} {own:Nat → Nat → Prop} {X:Pr} {lv:Nat → Value} {wv:Value} (h:Dj w B gp ge own X lv wv) (kind i:Int) (vb:Value) (hll:(X.sd 1).log.length ≤ 1000000) (hp:¬ (X.sd 1).end_.phase = 2) :
  Calls Try.prog 108 #[.pointer (some ⟨gp,0,none⟩),.agg #[.int .i64 kind,.int .i64 1,.int .i64 i,vb]] w fun e w' => e = .returned (.int .i64 0) ∧ Moves w B gp ge own (X.set 1 (Ai (X.sd 1) (Aa (X.sd 1).end_))) (fun k => k = gp ∨ own 2 k ∨ own 4 k) w':=by
 have hba:Below w.heap.size w (w.alloc (.cells #[.int .i64 kind,.int .i64 1,.int .i64 i,vb] 72)):=(Below.refl _ _).alloc (Nat.le_refl _) _
 have hc1:(w.alloc (.cells #[.int .i64 kind,.int .i64 1,.int .i64 i,vb] 72)).cell? ⟨w.heap.size,1,none⟩ = some (.int .i64 1):=(AA (heap_alloc_new w _) 1).trans rfl
 have hc2:(w.alloc (.cells #[.int .i64 kind,.int .i64 1,.int .i64 i,vb] 72)).cell? ⟨gp,9,none⟩ = some (.pointer (some ⟨ge 1,0,none⟩)):=(AA (h.sub hba).blk 9).trans rfl
 have H:=Lib.hid h
 have HB:=Lib.hid hba
 have Gv:=Lib.hid hll
 have hdp:decide ((X.sd 1).end_.phase = 2) = false:=by simp [hp]
 have jk:=Lib.hid hdp
 clear h hba hll hp hdp
 go_enter Try.func108,Try.ntmps108
 go_wp2_with fail
 go_quiet (fail)
 rename Nat => nq1
 have hb1:=HB.out.trans (Au (Below.refl _ _) nq1:Below w.heap.size (w.alloc (.cells #[.int .i64 kind,.int .i64 1,.int .i64 i,vb] 72)) _)
 have HB2:=Lib.hid hb1
 clear hb1
 go_wp2_with (first | (go_at_call 78; (have hc:=KR ((H.out.sub HB2.out).e 1 (by decide))); rw [jk.out] at hc; (with_reducible refine hc.mono ?_); clear hc; rintro e w3 ⟨rfl,ht⟩; (have HT:=Lib.hid ((H.out.sub HB2.out).turn (s:=1) (by decide) ht)); (have UQ:=Lib.hid (((Kept.of_below HB2.out _).BQ ht.2.1 (fun k hk => .inl (.inr (.inl hk)))):Kept w w3 (fun k => k = gp ∨ own 2 k ∨ own 4 k))); (have Gf:=Lib.hid ((HB2.out.mono H.out.hB).trans ht.2.2)); clear ht) | (go_at_call 127; (have Bh:Calls Try.prog 127 #[.pointer (some ⟨gp,9,none⟩),.int .i64 2,.slice none 0 0] w3 _:=LW HT.out 2 [] none 0 (Lu w3) (by decide) (by rw [Pr.Ae]; exact Gv.out)); (with_reducible refine Bh.mono ?_); clear Bh; rintro e w4 ⟨rfl,hM⟩; (have HM:=Lib.hid hM); clear hM))
 all_goals (go_ret; exact ⟨rfl,_,lv,wv,HT.out,Grew.grow _ HB2.out.size,UQ.out,Gf.out⟩)
theorem XA {w:World} {B gp:Nat} {ge:Nat → Nat} {own:Nat → Nat → Prop} {X:Pr} {lv:Nat → Value} {wv:Value} (h:Dj w B gp ge own X lv wv) (kind i:Int) (vb:Value) (hll:(X.sd 1).log.length ≤ 1000000) (hp:(X.sd 1).end_.phase = 2) :
  Calls Try.prog 108 #[.pointer (some ⟨gp,0,none⟩),.agg #[.int .i64 kind,.int .i64 1,.int .i64 i,vb]] w fun e w' => e = .returned (.int .i64 0) ∧ Moves w B gp ge own (X.set 1 (DZ (Ai (X.sd 1) (Aa (X.sd 1).end_)) 2 [])) (fun k => k = gp ∨ own 2 k ∨ own 4 k) w':=by
 have hba:Below w.heap.size w (w.alloc (.cells #[.int .i64 kind,.int .i64 1,.int .i64 i,vb] 72)):=(Below.refl _ _).alloc (Nat.le_refl _) _
 have hc1:(w.alloc (.cells #[.int .i64 kind,.int .i64 1,.int .i64 i,vb] 72)).cell? ⟨w.heap.size,1,none⟩ = some (.int .i64 1):=(AA (heap_alloc_new w _) 1).trans rfl
 have hc2:(w.alloc (.cells #[.int .i64 kind,.int .i64 1,.int .i64 i,vb] 72)).cell? ⟨gp,9,none⟩ = some (.pointer (some ⟨ge 1,0,none⟩)):=(AA (h.sub hba).blk 9).trans rfl
 have H:=Lib.hid h
 have HB:=Lib.hid hba
 have Gv:=Lib.hid hll
 have hdp:decide ((X.sd 1).end_.phase = 2) = true:=by simp [hp]
 have jk:=Lib.hid hdp
 clear h hba hll hp hdp
 go_enter Try.func108,Try.ntmps108
 go_wp2_with fail
 go_quiet (fail)
 rename Nat => nq1
 have hb1:=HB.out.trans (Au (Below.refl _ _) nq1:Below w.heap.size (w.alloc (.cells #[.int .i64 kind,.int .i64 1,.int .i64 i,vb] 72)) _)
 have HB2:=Lib.hid hb1
 clear hb1
 go_wp2_with (first | (go_at_call 78; (have hc:=KR ((H.out.sub HB2.out).e 1 (by decide))); rw [jk.out] at hc; (with_reducible refine hc.mono ?_); clear hc; rintro e w3 ⟨rfl,ht⟩; (have HT:=Lib.hid ((H.out.sub HB2.out).turn (s:=1) (by decide) ht)); (have UQ:=Lib.hid (((Kept.of_below HB2.out _).BQ ht.2.1 (fun k hk => .inl (.inr (.inl hk)))):Kept w w3 (fun k => k = gp ∨ own 2 k ∨ own 4 k))); (have Gf:=Lib.hid ((HB2.out.mono H.out.hB).trans ht.2.2)); clear ht) | (go_at_call 127; (have Bh:Calls Try.prog 127 #[.pointer (some ⟨gp,9,none⟩),.int .i64 2,.slice none 0 0] w3 _:=LW HT.out 2 [] none 0 (Lu w3) (by decide) (by rw [Pr.Ae]; exact Gv.out)); (with_reducible refine Bh.mono ?_); clear Bh; rintro e w4 ⟨rfl,hM⟩; (have HM:=Lib.hid hM); clear hM))
 all_goals (go_ret; refine ⟨rfl,?_⟩)
 exact Z42
end Go.Proofs.Ytnkkgofpifhoeaa.Pr
end
section
namespace Go.Proofs.Ytnkkgofpifhoeaa.Lk
open Go.RowKit Go.Proofs.Ytnkkgofpifhoeaa.Base Go.Proofs.Ytnkkgofpifhoeaa.Steps Go.Proofs.YtnkkgofpifhoeaaW.PrintWords Go.Proofs.YtnkkgofpifhoeaaW.PrintLast
theorem P7 {w:World} {B g:Nat} {L:Lk} (h:At w B (fun _ => False) (fun _ => False) g L (.slice none 0 0) (.slice none 0 0)):End w B (fun k => k = g) g L :=
 ⟨_,_,_,_,h,fun k hk => hk.elim False.elim (fun x => x.elim False.elim id)⟩
end Go.Proofs.Ytnkkgofpifhoeaa.Lk
end
section
namespace Go.Proofs.Ytnkkgofpifhoeaa.Pr
open Go.RowKit Go.Proofs.Ytnkkgofpifhoeaa.Base Go.Proofs.Ytnkkgofpifhoeaa.Steps Go.Proofs.Ytnkkgofpifhoeaa.Lk Go.Proofs.Ytnkkgofpifhoeaa.Fg Go.Proofs.YtnkkgofpifhoeaaW.PrintWords Go.Proofs.YtnkkgofpifhoeaaW.PrintLast
def rJ:Sd:=⟨newL 1,1,[],⟨0,0,0,0,0,[]⟩⟩
def Ip:Pr:=⟨fun _ => rJ,[]⟩
theorem fK (w:World) (B:Nat) (hB:B ≤ w.heap.size):Calls Try.prog 44 #[] w fun e w' => ∃ ge own,e = .returned (.pointer (some ⟨w.heap.size,0,none⟩)) ∧ Dj w' B w.heap.size ge own Ip (fun _ => .slice none 0 0) (.slice none 0 0) ∧ (∀ i k,own i k → w.heap.size ≤ k) ∧ Below B w w':=by
 have HB:=Lib.hid hB
 have HZ:=Lib.hid (heap_alloc_new w (.cells #[.pointer none,.int .u32 0,.slice none 0 0,.int .i64 0,.int .u32 0,.int .u32 0,.int .u32 0,.int .u32 0,.slice none 0 0,.pointer none,.int .u32 0,.slice none 0 0,.int .i64 0,.int .u32 0,.int .u32 0,.int .u32 0,.int .u32 0,.slice none 0 0,.slice none 0 0] 143))
 have HZL:=Lib.hid (show Below w.heap.size w (w.alloc (.cells #[.pointer none,.int .u32 0,.slice none 0 0,.int .i64 0,.int .u32 0,.int .u32 0,.int .u32 0,.int .u32 0,.slice none 0 0,.pointer none,.int .u32 0,.slice none 0 0,.int .i64 0,.int .u32 0,.int .u32 0,.int .u32 0,.int .u32 0,.slice none 0 0,.slice none 0 0] 143)) from (Below.refl _ _).alloc (Nat.le_refl _) _)
 clear hB
 go_enter Try.func44,Try.ntmps44
 go_wp2_with fail
 refine wp_loop_rounds 3 ?_
 rw [rounds_succ]
 go_wp2_with (first | ((with_reducible refine gate_ (.store 24 (.tmp 13) (.const (.int .u32 1))) rfl ?_); (refine AU (fun wz => wz.heap[w.heap.size]? = some (.cells #[.pointer none,.int .u32 1,.slice none 0 0,.int .i64 0,.int .u32 0,.int .u32 0,.int .u32 0,.int .u32 0,.slice none 0 0,.pointer none,.int .u32 0,.slice none 0 0,.int .i64 0,.int .u32 0,.int .u32 0,.int .u32 0,.int .u32 0,.slice none 0 0,.slice none 0 0] 143 (0,0)) ∧ Below w.heap.size w wz ∧ Kept (w.alloc (.cells #[.pointer none,.int .u32 0,.slice none 0 0,.int .i64 0,.int .u32 0,.int .u32 0,.int .u32 0,.int .u32 0,.slice none 0 0,.pointer none,.int .u32 0,.slice none 0 0,.int .i64 0,.int .u32 0,.int .u32 0,.int .u32 0,.int .u32 0,.slice none 0 0,.slice none 0 0] 143)) wz (fun k => k = w.heap.size)) rfl rfl ⟨_,(by have hz1:World.cell? (w.alloc (.cells #[.pointer none,.int .u32 0,.slice none 0 0,.int .i64 0,.int .u32 0,.int .u32 0,.int .u32 0,.int .u32 0,.slice none 0 0,.pointer none,.int .u32 0,.slice none 0 0,.int .i64 0,.int .u32 0,.int .u32 0,.int .u32 0,.int .u32 0,.slice none 0 0,.slice none 0 0] 143)) ⟨w.heap.size,1,none⟩ = some _:=(AA HZ.out 1).trans rfl; have hz2:=AL HZ.out 1; first | (go_simp; done) | (go_simp; rfl)),Af HZ.out 1 _ rfl,HZL.out.setCell (p:=⟨w.heap.size,1,none⟩) (Nat.le_refl _) _,Kept.setCell (S:=fun k => k = w.heap.size) (Kept.refl _ _) (p:=⟨w.heap.size,1,none⟩) (.inl rfl) _⟩ (fun zG hF => ?_)); (have rM:=Lib.hid hF); (clear hF)))
 have hSS:zG.drew.heap[w.heap.size]? = some (.cells #[.pointer none,.int .u32 1,.slice none 0 0,.int .i64 0,.int .u32 0,.int .u32 0,.int .u32 0,.int .u32 0,.slice none 0 0,.pointer none,.int .u32 0,.slice none 0 0,.int .i64 0,.int .u32 0,.int .u32 0,.int .u32 0,.int .u32 0,.slice none 0 0,.slice none 0 0] 143 (0,0)):=rM.out.1
 have hbd:=AZ rM.out.2.1
 have hkp:Kept (w.alloc (.cells #[.pointer none,.int .u32 0,.slice none 0 0,.int .i64 0,.int .u32 0,.int .u32 0,.int .u32 0,.int .u32 0,.slice none 0 0,.pointer none,.int .u32 0,.slice none 0 0,.int .i64 0,.int .u32 0,.int .u32 0,.int .u32 0,.int .u32 0,.slice none 0 0,.slice none 0 0] 143)) zG.drew (fun k => k = w.heap.size):=rM.out.2.2
 refine BA (n:=11) (S:=fun w' => w'.heap[w.heap.size]? = some (.cells #[.pointer none,.int .u32 1,.slice none 0 0,.int .i64 0,.int .u32 0,.int .u32 0,.int .u32 0,.int .u32 0,.slice none 0 0,.pointer none,.int .u32 0,.slice none 0 0,.int .i64 0,.int .u32 0,.int .u32 0,.int .u32 0,.int .u32 0,.slice none 0 0,.slice none 0 0] 143 (0,0))) (ds:=[10]) gz (by kernel_rfl) rfl rfl (hSS) (fun hHeld => ?_)
 generalize zG.drew = wd0 at hbd hkp hHeld ⊢
 have EM:=Lib.hid hbd
 have AFC:=Lib.hid hkp
 clear hbd hkp
 refine pu 0 15 nK ?_
 refine pu 1 16 nM ?_
 refine pu 6 20 M31 ?_
 refine pu 7 21 M34 ?_
 refine on 2 (some 17) M37 fun K hK => ?_
 refine BH Try.func26 (by kernel_rfl) rfl #[.int .u32 1] (by rfl) rfl rfl (by (try simp only [List.map_toArray,List.map_cons,List.map_nil]); first | done | rfl) ?_
 refine (PY 1 (by decide) wd0 B (Nat.le_trans HB.out EM.out.size)).mono ?_
 rintro e wP ⟨rfl,hat,hbn⟩
 refine ⟨_,rfl,?_⟩
 have hS3:wP.heap[w.heap.size]? = some (.cells #[.pointer none,.int .u32 1,.slice none 0 0,.int .i64 0,.int .u32 0,.int .u32 0,.int .u32 0,.int .u32 0,.slice none 0 0,.pointer none,.int .u32 0,.slice none 0 0,.int .i64 0,.int .u32 0,.int .u32 0,.int .u32 0,.int .u32 0,.slice none 0 0,.slice none 0 0] 143 (0,0)):=(hbn.block _ (AQ hHeld)).trans hHeld
 have rO:=Lib.hid hat
 have zH:=Lib.hid hbn
 have jl:=Lib.hid hS3
 have hgx:=AQ hHeld
 have rP:=Lib.hid hgx
 clear hat hbn hHeld hgx
 generalize hge:wd0.heap.size = g0 at *
 have zI:=Lib.hid hge
 clear hge
 refine hK.out _ _ hS3 (fun hHeld => ?_)
 clear hK K hS3
 refine nm 17 ?_
 refine pu 3 14 M3a ?_
 refine pu 4 18 M3d ?_
 refine pu 5 19 nN ?_
 refine pu 8 22 iD ?_
 refine pu 9 23 iF ?_
 refine la 10 none iG fun K hK => ?_
 have hz1:wP.cell? ⟨w.heap.size,0,none⟩ = some _:=(AA jl.out 0).trans rfl
 have hz2:=AL jl.out 0
 refine CG (fun wz => wz.heap[w.heap.size]? = some (.cells #[.pointer (some ⟨g0,0,none⟩),.int .u32 1,.slice none 0 0,.int .i64 0,.int .u32 0,.int .u32 0,.int .u32 0,.int .u32 0,.slice none 0 0,.pointer none,.int .u32 0,.slice none 0 0,.int .i64 0,.int .u32 0,.int .u32 0,.int .u32 0,.int .u32 0,.slice none 0 0,.slice none 0 0] 143 (0,0)) ∧ Kept wP wz (fun k => k = w.heap.size) ∧ wz.heap.size = wP.heap.size ∧ Below w.heap.size w wz) (by rfl) rfl ⟨_,by first | (go_simp; done) | (go_simp; rfl),Af jl.out 0 _ rfl,Kept.setCell (S:=fun k => k = w.heap.size) (Kept.refl _ _) (p:=⟨w.heap.size,0,none⟩) (.inl rfl) _,by simp [World.setCell],(EM.out.trans (zH.out.mono (by have:=rP.out; have:=zI.out; omega))).setCell (p:=⟨w.heap.size,0,none⟩) (Nat.le_refl _) _⟩ (fun zJ hF => ?_)
 have ny:=Lib.hid hF
 have oD:=Lib.hid hF.1
 have bJ:=Lib.hid hF.2.2.2
 clear hF hz1 hz2 hHeld
 refine hK.out _ _ ?_
 clear hK K
 refine BG (by kernel_rfl) ?_
 go_wp2_with fail
 rw [rounds_succ]
 go_wp2_with (first | ((with_reducible refine gate_ (.store 24 (.tmp 13) (.const (.int .u32 1))) rfl ?_); (refine AU (fun wz => wz.heap[w.heap.size]? = some (.cells #[.pointer (some ⟨g0,0,none⟩),.int .u32 1,.slice none 0 0,.int .i64 0,.int .u32 0,.int .u32 0,.int .u32 0,.int .u32 0,.slice none 0 0,.pointer none,.int .u32 1,.slice none 0 0,.int .i64 0,.int .u32 0,.int .u32 0,.int .u32 0,.int .u32 0,.slice none 0 0,.slice none 0 0] 143 (0,0)) ∧ Below w.heap.size w wz ∧ Kept zJ wz (fun k => k = w.heap.size)) rfl rfl ⟨_,(by have hz1:World.cell? zJ ⟨w.heap.size,10,none⟩ = some _:=(AA oD.out 10).trans rfl; have hz2:=AL oD.out 10; first | (go_simp; done) | (go_simp; rfl)),Af oD.out 10 _ rfl,bJ.out.setCell (p:=⟨w.heap.size,10,none⟩) (Nat.le_refl _) _,Kept.setCell (S:=fun k => k = w.heap.size) (Kept.refl _ _) (p:=⟨w.heap.size,10,none⟩) (.inl rfl) _⟩ (fun zK hF => ?_)); (have zL:=Lib.hid hF); (clear hF)))
 have hSS:zK.drew.heap[w.heap.size]? = some (.cells #[.pointer (some ⟨g0,0,none⟩),.int .u32 1,.slice none 0 0,.int .i64 0,.int .u32 0,.int .u32 0,.int .u32 0,.int .u32 0,.slice none 0 0,.pointer none,.int .u32 1,.slice none 0 0,.int .i64 0,.int .u32 0,.int .u32 0,.int .u32 0,.int .u32 0,.slice none 0 0,.slice none 0 0] 143 (0,0)):=zL.out.1
 have hbd:=AZ zL.out.2.1
 have hkp:Kept zJ zK.drew (fun k => k = w.heap.size):=zL.out.2.2
 refine BA (n:=11) (S:=fun w' => w'.heap[w.heap.size]? = some (.cells #[.pointer (some ⟨g0,0,none⟩),.int .u32 1,.slice none 0 0,.int .i64 0,.int .u32 0,.int .u32 0,.int .u32 0,.int .u32 0,.slice none 0 0,.pointer none,.int .u32 1,.slice none 0 0,.int .i64 0,.int .u32 0,.int .u32 0,.int .u32 0,.int .u32 0,.slice none 0 0,.slice none 0 0] 143 (0,0))) (ds:=[10]) gz (by kernel_rfl) rfl rfl (hSS) (fun hHeld => ?_)
 generalize zK.drew = wQ at hbd hkp hHeld ⊢
 have rQ:=Lib.hid hbd
 have rU:=Lib.hid hkp
 clear hbd hkp
 refine pu 0 15 nK ?_
 refine pu 1 16 nM ?_
 refine pu 6 20 M31 ?_
 refine pu 7 21 M34 ?_
 refine on 2 (some 17) M37 fun K hK => ?_
 refine BH Try.func26 (by kernel_rfl) rfl #[.int .u32 1] (by rfl) rfl rfl (by (try simp only [List.map_toArray,List.map_cons,List.map_nil]); first | done | rfl) ?_
 refine (PY 1 (by decide) wQ B (Nat.le_trans HB.out rQ.out.size)).mono ?_
 rintro e rV ⟨rfl,hat,hbn⟩
 refine ⟨_,rfl,?_⟩
 have hS3:rV.heap[w.heap.size]? = some (.cells #[.pointer (some ⟨g0,0,none⟩),.int .u32 1,.slice none 0 0,.int .i64 0,.int .u32 0,.int .u32 0,.int .u32 0,.int .u32 0,.slice none 0 0,.pointer none,.int .u32 1,.slice none 0 0,.int .i64 0,.int .u32 0,.int .u32 0,.int .u32 0,.int .u32 0,.slice none 0 0,.slice none 0 0] 143 (0,0)):=(hbn.block _ (AQ hHeld)).trans hHeld
 have rW:=Lib.hid hat
 have rX:=Lib.hid hbn
 have jm:=Lib.hid hS3
 have hgx:=AQ hHeld
 have rY:=Lib.hid hgx
 clear hat hbn hHeld hgx
 generalize hge:wQ.heap.size = g1 at *
 have jo:=Lib.hid hge
 clear hge
 refine hK.out _ _ hS3 (fun hHeld => ?_)
 clear hK K hS3
 refine nm 17 ?_
 refine pu 3 14 M3a ?_
 refine pu 4 18 M3d ?_
 refine pu 5 19 nN ?_
 refine pu 8 22 iD ?_
 refine pu 9 23 iF ?_
 refine la 10 none iG fun K hK => ?_
 have hz1:rV.cell? ⟨w.heap.size,9,none⟩ = some _:=(AA jm.out 9).trans rfl
 have hz2:=AL jm.out 9
 refine CG (fun wz => wz.heap[w.heap.size]? = some (.cells #[.pointer (some ⟨g0,0,none⟩),.int .u32 1,.slice none 0 0,.int .i64 0,.int .u32 0,.int .u32 0,.int .u32 0,.int .u32 0,.slice none 0 0,.pointer (some ⟨g1,0,none⟩),.int .u32 1,.slice none 0 0,.int .i64 0,.int .u32 0,.int .u32 0,.int .u32 0,.int .u32 0,.slice none 0 0,.slice none 0 0] 143 (0,0)) ∧ Kept rV wz (fun k => k = w.heap.size) ∧ wz.heap.size = rV.heap.size ∧ Below w.heap.size w wz) (by rfl) rfl ⟨_,by first | (go_simp; done) | (go_simp; rfl),Af jm.out 9 _ rfl,Kept.setCell (S:=fun k => k = w.heap.size) (Kept.refl _ _) (p:=⟨w.heap.size,9,none⟩) (.inl rfl) _,by simp [World.setCell],(rQ.out.trans (rX.out.mono (by have:=rY.out; have:=jo.out; omega))).setCell (p:=⟨w.heap.size,9,none⟩) (Nat.le_refl _) _⟩ (fun we1 hF => ?_)
 have jq:=Lib.hid hF
 have HE1:=Lib.hid hF.1
 have Pz:=Lib.hid hF.2.2.2
 clear hF hz1 hz2 hHeld
 refine hK.out _ _ ?_
 clear hK K
 refine BG (by kernel_rfl) ?_
 go_wp2_with fail
 rw [rounds_succ]
 go_wp2_with fail
 have hlt0:=AQ rO.out.blk
 have hsz0:=ny.out.2.2.1
 have AFE:=rU.out.1
 have AFF:g0 < g1:=by have:=jo.out; omega
 have hx0:=rP.out
 have hx1:=rY.out
 have zM:=jo.out
 have hb1:Below wQ.heap.size wQ rV:=by have:=rX.out; rwa [← zM] at this
 have hz1:=jq.out.2.2.1
 have hl1:=AQ rW.out.blk
 have e0:Lk.End we1 B (fun k => k = g0) g0 (newL 1):=((((P7 rO.out).kept ny.out.2.1 (fun k hk hx => by omega)).kept rU.out (fun k hk hx => by omega)).kept (Kept.of_below hb1 (fun _ => False)) (fun _ _ hf => hf)).kept jq.out.2.1 (fun k hk hx => by omega)
 have e1:Lk.End we1 B (fun k => k = g1) g1 (newL 1):=(P7 rW.out).kept jq.out.2.1 (fun k hk hx => by omega)
 go_ret
 refine ⟨fun t => if t = 0 then g0 else g1,fun j k => (j = 1 ∧ k = g0) ∨ (j = 2 ∧ k = g1),rfl,⟨HE1.out,HB.out,fun i hi => by omega,fun i j k hi hj => by omega,fun i k hi => by omega,fun s hs => ?_,fun s hs => Kd.D5 _ _ _ _ _,Fg.nil _ _ _ _ _⟩,fun i k hi => by omega,Pz.out.mono HB.out⟩
 have h0:s = 0 ∨ s = 1:=by omega
 rcases h0 with rfl | rfl
 ·exact e0.mono (fun k hk => .inl ⟨rfl,hk⟩)
 ·exact e1.mono (fun k hk => .inr ⟨rfl,hk⟩)
end Go.Proofs.Ytnkkgofpifhoeaa.Pr
end
section
namespace Go.Proofs.Ytnkkgofpifhoeaa.Pr
open Go.Proofs.Ytnkkgofpifhoeaa.Lk
structure Act where
 kind:Int
 side:Int
 i:Int
 body:List Int
def C9 (d:Sd):Sd:=if d.AB = 4294967295 then d else { d with AB:=d.AB + 1,end_:=newL (d.AB + 1),log:=d.log ++ [⟨5,d.AB + 1,0,0,0,[]⟩] }
def DW (d:Sd) (x:Lk × Tk):Sd :=
 if x.2.down = true then DZ (Ai d x.1) 2 [] else if x.2.up = true then DZ (MV (Ai d x.1)) 1 [] else if 0 < x.2.body.length then DZ (Ai d x.1) 4 x.2.body else Ai d x.1
def Gn (X:Pr) (i:Nat):Pr :=
 ({ X with way:=X.way.eraseIdx i }:Pr).set (X.way.getD i DI).dst.toNat (DW (X.sd (X.way.getD i DI).dst.toNat) (Bf (X.sd (X.way.getD i DI).dst.toNat).end_ (X.way.getD i DI).AB (X.way.getD i DI).p))
def Fv (X:Pr) (a:Act):Pr :=
 if a.kind = 1 then X.set a.side.toNat (Ai (X.sd a.side.toNat) (DN (X.sd a.side.toNat).end_))
 else if a.kind = 2 then X.set a.side.toNat (GI (X.sd a.side.toNat))
 else if a.kind = 3 then X.set a.side.toNat (GH (X.sd a.side.toNat) a.body)
 else if a.kind = 4 then X.set a.side.toNat (Ai (X.sd a.side.toNat) (Dz (X.sd a.side.toNat).end_))
 else if a.kind = 5 then X.set a.side.toNat (C9 (X.sd a.side.toNat))
 else if a.kind = 6 then Gn X a.i.toNat
 else if a.kind = 7 then { X with way:=X.way.eraseIdx a.i.toNat }
 else GU X (X.way.getD a.i.toNat DI)
def Jh (X:Pr) (a:Act):Int :=
 if a.kind = 1 then EK (X.sd a.side.toNat).end_ else if a.kind = 3 then Bq (X.sd a.side.toNat).end_ a.body.length
 else if a.kind = 5 then (if (X.sd a.side.toNat).AB = 4294967295 then 2 else 0) else 0
def LX (X:Pr) (a:Act):Int:=if a.kind < 1 ∨ 8 < a.kind then 121 else if a.kind < 6 ∧ a.side ≠ 0 ∧ a.side ≠ 1 then 120 else if 6 ≤ a.kind ∧ (a.i < 0 ∨ (X.way.length:Int) ≤ a.i) then 122 else 0
def P8 (X:Pr) (a:Act):Pr:=if LX X a = 0 then BC (BC (Fv X a) 0) 1 else X
def Yj (X:Pr) (a:Act):Int:=if LX X a = 0 then Jh X a else LX X a
def LY (X:Pr) (l:List Act):Pr:=l.foldl P8 X
structure Same (L L':Lk):Prop where
 own:L'.own = L.own
 phase:L'.phase = L.phase
 token:L'.token = L.token
 AB:L'.AB = L.AB
 yours:L'.yours = L.yours
 known:L'.known = L.known
 queue:L'.queue = L.queue
 base:L'.base = L.base
 expected:L'.expected = L.expected
theorem Same.refl (L:Lk):Same L L:=⟨rfl,rfl,rfl,rfl,rfl,rfl,rfl,rfl,rfl⟩
theorem Same.trans {a b c:Lk} (h:Same a b) (k:Same b c):Same a c :=
 ⟨k.own.trans h.own,k.phase.trans h.phase,k.token.trans h.token,k.AB.trans h.AB,k.yours.trans h.yours,k.known.trans h.known,k.queue.trans h.queue,k.base.trans h.base,k.expected.trans h.expected⟩
def Says (L:Lk) (p:Bz):Prop:=(p = Bc L ∧ L.phase ≠ 0) ∨ (L.phase = 2 ∧ ∃ i:Nat,i < L.queue.length ∧ p = Dp L i) ∨ (L.phase = 2 ∧ p = Hy L)
theorem UR {L L':Lk} (h:Same L L'):Bc L' = Bc L:=by unfold Bc; rw [h.token,h.known,h.AB,h.yours,h.phase]
theorem H6 {L L':Lk} (h:Same L L') (i:Int):Dp L' i = Dp L i:=by unfold Dp; rw [h.token,h.AB,h.yours,h.base,h.expected,h.queue]
theorem RQ {L L':Lk} (h:Same L L'):Hy L' = Hy L:=by unfold Hy; rw [h.token,h.AB,h.yours,h.expected]
theorem Says.same {L L':Lk} (h:Same L L') {p:Bz} (hs:Says L p):Says L' p:=by
 rcases hs with hs | hs | hs
 ·exact .inl ⟨hs.1.trans (UR h).symm,by rw [h.phase]; exact hs.2⟩
 ·obtain ⟨h2,i,hi,hp⟩:=hs
  exact .inr (.inl ⟨by rw [h.phase]; exact h2,i,by rw [h.queue]; exact hi,hp.trans (H6 h i).symm⟩)
 ·exact .inr (.inr ⟨by rw [h.phase]; exact hs.1,hs.2.trans (RQ h).symm⟩)
def Cf (L:Lk):Prop:=∀ p ∈ L.out,Says L p
theorem DR (L:Lk) (p:Bz):Same L (emit_ L p):=by
 unfold emit_
 split
 ·exact ⟨rfl,rfl,rfl,rfl,rfl,rfl,rfl,rfl,rfl⟩
 ·exact Same.refl _
theorem ES {L:Lk} (h:Cf L) {p:Bz} (hp:Says L p):Cf (emit_ L p):=by
 intro q hq
 refine Says.same (DR L p) ?_
 unfold emit_ at hq
 split at hq
 ·rcases List.mem_append.1 hq with hq | hq
  ·exact h q hq
  ·rw [List.mem_singleton.1 hq]; exact hp
 ·exact h q hq
theorem O4 {L L':Lk} (h:Cf L) (hs:Same L L') (ho:L'.out = L.out):Cf L':=fun p hp => (h p (ho ▸ hp)).same hs
theorem FC (L:Lk):Same L (Bj L):=(show Same L { L with idle:=if L.sent = 0 then 0 else L.idle,sent:=L.sent + 1 } from ⟨rfl,rfl,rfl,rfl,rfl,rfl,rfl,rfl,rfl⟩).trans (DR _ _)
theorem UT (n:Nat):∀ L:Lk,Same L (Dq n L):=by
 induction n with
 | zero => exact fun L => Same.refl L
 | succ n ih =>
  intro L
  unfold Dq
  split
  ·exact (FC L).trans (ih _)
  ·exact Same.refl L
theorem P9 {L:Lk} (h:Cf L) (h2:L.phase = 2) (h0:0 ≤ L.sent) (hq:L.sent < L.queue.length):Cf (Bj L):=by
 unfold Bj
 have hs:Same L { L with idle:=if L.sent = 0 then 0 else L.idle,sent:=L.sent + 1 }:=⟨rfl,rfl,rfl,rfl,rfl,rfl,rfl,rfl,rfl⟩
 refine ES (O4 h hs rfl) (Says.same hs (.inr (.inl ⟨h2,L.sent.toNat,by omega,?_⟩)))
 rw [Int.toNat_of_nonneg h0]
theorem FQ (L:Lk) (p:Bz):(emit_ L p).sent = L.sent:=by unfold emit_; split <;> rfl
theorem Di (L:Lk):(Bj L).sent = L.sent + 1:=FQ _ _
theorem Nk (n:Nat):∀ L:Lk,Cf L → L.phase = 2 → 0 ≤ L.sent → Cf (Dq n L):=by
 induction n with
 | zero => exact fun L h _ _ => h
 | succ n ih =>
  intro L h h2 h0
  unfold Dq
  split
  ·rename_i hc
   exact ih _ (P9 h h2 h0 hc.1) ((FC L).phase.trans h2) (by rw [Di]; omega)
  ·exact h
theorem H9 (L:Lk):Same L (BL L):=UT _ L
theorem J6 (n:Nat) (L:Lk):Same L (sends n L):=by
 induction n with
 | zero => exact Same.refl L
 | succ n ih => exact ih.trans (DR _ _)
theorem UU (n:Nat) {L:Lk} (h:Cf L) (h2:L.phase = 2) (hn:n ≤ L.queue.length):Cf (sends n L):=by
 induction n with
 | zero => exact h
 | succ n ih =>
  have hs:=J6 n L
  exact ES (ih (by omega)) (.inr (.inl ⟨by rw [hs.phase]; exact h2,n,by rw [hs.queue]; omega,(H6 hs n).symm⟩))
theorem EG {L:Lk} (h:L.out = []):Cf L:=fun p hp => by rw [h] at hp; cases hp
theorem O5 (L:Lk) (d:Int):Same L (Bv L d):=⟨rfl,rfl,rfl,rfl,rfl,rfl,rfl,rfl,rfl⟩
theorem XB {L:Lk} (hok:L.Ok) (ho:L.out = []) (hq:L.phase ≠ 2 → L.queue = []):Same L (Dz L) ∧ Cf (Dz L):=by
 have hn:=EG ho
 have hs:=hok.sent
 have DT:=hok.phase
 have hr:∀ d,Same L (Bv L d) ∧ Cf (Bv L d):=fun d => ⟨O5 L d,O4 hn (O5 L d) rfl⟩
 unfold Dz
 split
 ·exact ⟨Same.refl L,hn⟩
 rename_i h0
 split
 ·exact hr 0
 split
 ·exact hr _
 split
 ·exact ⟨(hr 0).1.trans (DR _ _),ES (hr 0).2 (.inl ⟨rfl,h0⟩)⟩
 ·rename_i h1
  exact ⟨(hr 0).1.trans (J6 _ _),UU _ (hr 0).2 (by show L.phase = 2; omega) (by show L.sent.toNat ≤ L.queue.length; omega)⟩
theorem XC {L:Lk} (ho:L.out = []) (hE:EK L = 0):L.phase = 0 ∧ L.token ≠ 4294967295 ∧ Same (CB L) (DN L) ∧ Cf (DN L):=by
 have hx:L.phase = 0 ∧ L.token ≠ 4294967295:=by
  unfold EK at hE
  split at hE
  ·rename_i h0
   split at hE
   ·exact absurd hE (by decide)
   ·rename_i h1; exact ⟨h0,h1⟩
  ·exact absurd hE (by decide)
 unfold DN
 rw [if_pos hx]
 exact ⟨hx.1,hx.2,DR _ _,ES (L:=CB L) (EG ho) (.inl ⟨rfl,show (1:Int) ≠ 0 by decide⟩)⟩
theorem bK {L:Lk} (hE:EK L ≠ 0):DN L = L:=by
 unfold DN
 refine if_neg (fun h => hE ?_)
 unfold EK
 rw [if_pos h.1,if_neg h.2]
theorem O6 {L:Lk} (hok:L.Ok) (ho:L.out = []) (body:List Int) (hE:Bq L body.length = 0):L.phase = 2 ∧ 0 < body.length ∧ body.length ≤ 1000 ∧ L.queue.length < 64 ∧ Same { L with queue:=L.queue ++ [body] } (Be L body) ∧ Cf (Be L body):=by
 have hx:L.phase = 2 ∧ ¬ (body.length = 0 ∨ 1000 < body.length) ∧ L.queue.length < 64:=by
  unfold Bq at hE
  split at hE
  ·split at hE
   ·exact absurd hE (by decide)
   ·split at hE
    ·exact absurd hE (by decide)
    ·rename_i a b c; exact ⟨a,b,by omega⟩
  ·exact absurd hE (by decide)
 unfold Be
 rw [if_pos hE]
 exact ⟨hx.1,by omega,by omega,hx.2.2,H9 _,Nk _ _ (EG ho) hx.1 hok.sent.1⟩
theorem bM {L:Lk} {body:List Int} (hE:Bq L body.length ≠ 0):Be L body = L:=if_neg hE
def jr (L:Lk) (p:Bz) (k:Nat):Lk:={ L with expected:=(FU L p).expected,queue:=L.queue.drop k,base:=IntKind.u32.wrap (L.base + k) }
theorem RS (L:Lk) (p:Bz):Same { L with expected:=(FU L p).expected } (FU L p):=by unfold FU; split <;> exact ⟨rfl,rfl,rfl,rfl,rfl,rfl,rfl,rfl,rfl⟩
inductive JA (L:Lk) (AB:Int) (p:Bz):Lk → Tk → Prop
 | none {hd:Bool} (h:L.phase = 0 ∨ Bo L AB p.mine = -1 ∨ p.kind ≠ 1 ∧ (L.phase = 1 ∨ Bo L AB p.mine = 1 ∨ BI L p = false) ∨ p.kind = 1 ∧ L.phase = 2 ∧ Bo L AB p.mine = 0 ∧ p.seq ≠ 0):JA L AB p L ⟨hd,false,false,[]⟩
 | up {L':Lk} (h1:L.phase = 1) (hk:p.kind = 1) (ha:Bo L AB p.mine ≠ -1) (hm:BI L p = true) (hs:Same { Cc L AB p with phase:=2 } L') (hy:L' = emit_ { Cc L AB p with phase:=2 } (Bc { Cc L AB p with phase:=2 })):JA L AB p L' ⟨true,true,false,[]⟩
 | learn {L':Lk} (h1:L.phase = 1) (hk:p.kind = 1) (ha:Bo L AB p.mine ≠ -1) (hm:BI L p = false) (hs:Same (Cc L AB p) L') (hy:L' = emit_ (Cc L AB p) (Bc (Cc L AB p))):JA L AB p L' ⟨true,false,false,[]⟩
 | again {L':Lk} (h2:L.phase = 2) (hk:p.kind = 1) (ha:Bo L AB p.mine = 0) (h0:p.seq = 0) (hs:Same L L') (hy:L' = emit_ L (Bc L)):JA L AB p L' ⟨true,false,false,[]⟩
 | last (h2:L.phase = 2) (hk:p.kind = 1) (ha:Bo L AB p.mine = 1) (ht:L.token = 4294967295):JA L AB p (Aa L) ⟨true,false,true,[]⟩
 | anew {L':Lk} (h2:L.phase = 2) (hk:p.kind = 1) (ha:Bo L AB p.mine = 1) (ht:L.token ≠ 4294967295) (hs:Same (Cc (CB L) AB p) L') (hy:L' = emit_ (Cc (CB L) AB p) (Bc (Cc (CB L) AB p))):JA L AB p L' ⟨true,false,true,[]⟩
 | signal {L':Lk} (h2:L.phase = 2) (hk:p.kind ≠ 1) (ha:Bo L AB p.mine = 0) (hm:BI L p = true) (k:Nat) (hkk:k = 0 ∨ 1 ≤ k ∧ (k:Int) ≤ L.sent ∧ k = Gu L p) (hx:Same (jr L p k) L') (hy:L' = KC L p):JA L AB p L' ⟨true,false,false,OV L p⟩
theorem JS (L:Lk) (p:Bz):(FU L p).queue = L.queue:=by unfold FU; split <;> rfl
theorem RU (L:Lk) (p:Bz):(FU L p).base = L.base:=by unfold FU; split <;> rfl
theorem O7 (L:Lk) (p:Bz):(FU L p).sent = L.sent:=by unfold FU; split <;> rfl
theorem MW (L:Lk) (p:Bz):(FU L p).out = L.out:=by unfold FU; split <;> rfl
theorem J7 (L:Lk) (p:Bz):(FU L p).phase = L.phase:=by unfold FU; split <;> rfl
theorem bP {L:Lk} (hok:L.Ok) (ho:L.out = []) (p:Bz) (h2:L.phase = 2):∃ k:Nat,(k = 0 ∨ 1 ≤ k ∧ (k:Int) ≤ L.sent ∧ k = Gu L p) ∧ Same (jr L p k) (KC L p) ∧ Cf (KC L p):=by
 have hb:=hok.base
 have h1:∃ k:Nat,(k = 0 ∨ 1 ≤ k ∧ (k:Int) ≤ L.sent ∧ k = Gu L p) ∧ Same (jr L p k) (Je L p) ∧ Cf (Je L p) ∧ (Je L p).phase = 2:=by
  unfold Je
  split
  ·rename_i hc
   have hf:=H9 (CZ (FU L p) (Gu L p))
   refine ⟨Gu L p,.inr ⟨hc.1,hc.2,rfl⟩,?_,Nk _ _ (EG (by show (FU L p).out = []; rw [MW]; exact ho)) (by show (FU L p).phase = 2; rw [J7]; exact h2) (by show 0 ≤ (FU L p).sent - (Gu L p:Int); rw [O7]; omega),hf.phase.trans (by show (FU L p).phase = 2; rw [J7]; exact h2)⟩
   have hm:=RS L p
   refine Same.trans (b:=CZ (FU L p) (Gu L p)) ⟨hm.own,hm.phase,hm.token,hm.AB,hm.yours,hm.known,?_,?_,rfl⟩ hf
   ·show (FU L p).queue.drop _ = _; rw [JS]; rfl
   ·show IntKind.u32.wrap ((FU L p).base + _) = _; rw [RU]; rfl
  ·have hm:=RS L p
   refine ⟨0,.inl rfl,⟨hm.own,hm.phase,hm.token,hm.AB,hm.yours,hm.known,by rw [JS]; rfl,?_,rfl⟩,EG (by rw [MW]; exact ho),by rw [J7]; exact h2⟩
   show (FU L p).base = IntKind.u32.wrap (L.base + ((0:Nat):Int))
   rw [RU,FZ]; omega
 obtain ⟨k,hk,hs,hsa,DT⟩:=h1
 refine ⟨k,hk,?_⟩
 unfold KC
 split
 ·exact ⟨hs.trans (DR _ _),ES hsa (.inr (.inr ⟨DT,rfl⟩))⟩
 ·exact ⟨hs,hsa⟩
theorem XD (L:Lk) (AB mine:Int):Bo L AB mine = -1 ∨ Bo L AB mine = 0 ∨ Bo L AB mine = 1:=by
 unfold Bo
 split
 ·exact .inl rfl
 ·split
  ·split
   ·exact .inl rfl
   ·split
    ·exact .inr (.inl rfl)
    ·exact .inr (.inr rfl)
  ·exact .inr (.inr rfl)
theorem IA {L:Lk} (hok:L.Ok) (ho:L.out = []) (AB:Int) (p:Bz):JA L AB p (Bf L AB p).1 (Bf L AB p).2 ∧ Cf (Bf L AB p).1:=by
 have DT:=hok.phase
 have hag:=XD L AB p.mine
 have hn:=EG ho
 unfold Bf
 split
 ·rename_i hc
  exact ⟨.none (hc.elim .inl (fun x => .inr (.inl x))),hn⟩
 rename_i hc
 have hc0:L.phase ≠ 0:=fun h => hc (.inl h)
 have hca:Bo L AB p.mine ≠ -1:=fun h => hc (.inr h)
 split
 ·rename_i hk
  split
  ·rename_i h1
   split
   ·rename_i hm
    exact ⟨.up h1 hk hca hm (DR _ _) rfl,ES (L:={ Cc L AB p with phase:=2 }) (EG ho) (.inl ⟨rfl,show (2:Int) ≠ 0 by decide⟩)⟩
   ·rename_i hm
    exact ⟨.learn h1 hk hca (by simpa using hm) (DR _ _) rfl,ES (L:=Cc L AB p) (EG ho) (.inl ⟨rfl,show L.phase ≠ 0 from hc0⟩)⟩
  ·rename_i h1
   have h2:L.phase = 2:=by omega
   split
   ·rename_i ha
    by_cases h0:p.seq = 0
    ·rw [if_pos h0]
     exact ⟨.again h2 hk ha h0 (DR _ _) rfl,ES hn (.inl ⟨rfl,hc0⟩)⟩
    ·rw [if_neg h0]
     exact ⟨.none (.inr (.inr (.inr ⟨hk,h2,ha,h0⟩))),hn⟩
   ·rename_i ha
    have ha1:Bo L AB p.mine = 1:=by omega
    split
    ·rename_i ht
     exact ⟨.last h2 hk ha1 ht,EG ho⟩
    ·rename_i ht
     exact ⟨.anew h2 hk ha1 ht (DR _ _) rfl,ES (L:=Cc (CB L) AB p) (EG ho) (.inl ⟨rfl,show (1:Int) ≠ 0 by decide⟩)⟩
 ·rename_i hk
  split
  ·rename_i hu
   obtain ⟨k,hkk,hs,hsa⟩:=bP hok ho p hu.1
   exact ⟨.signal hu.1 hk hu.2.1 hu.2.2 k hkk hs rfl,hsa⟩
  ·rename_i hu
   refine ⟨.none (.inr (.inr (.inl ⟨hk,?_⟩))),hn⟩
   by_cases h1:L.phase = 1
   ·exact .inl h1
   ·rcases hag with ha | ha | ha
    ·exact absurd ha hca
    ·right; right
     cases hm:BI L p
     ·rfl
     ·exact absurd ⟨by omega,ha,hm⟩ hu
    ·exact .inr (.inl ha)
end Go.Proofs.Ytnkkgofpifhoeaa.Pr
end
