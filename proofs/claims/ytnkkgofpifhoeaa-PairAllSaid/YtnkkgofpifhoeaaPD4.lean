/- What the laws of a pair are proved with: links and pairs in memory, what their methods do, what a pair keeps to (part 4). -/
import Derived.Test.YtnkkgofpifhoeaaPD3
import Derived.Lib.SlBytesConst
import Derived.Lib.SmallJoins
import Derived.LoopN
set_option linter.unusedSimpArgs false
set_option linter.unusedVariables false
section
namespace Go.Proofs.Ytnkkgofpifhoeaa.Pr
open Go.RowKit Go.Proofs.Ytnkkgofpifhoeaa.Base Go.Proofs.Ytnkkgofpifhoeaa.Steps Go.Proofs.Ytnkkgofpifhoeaa.Lk Go.Proofs.Ytnkkgofpifhoeaa.Win Go.Proofs.YtnkkgofpifhoeaaW.PrintWords Go.Proofs.YtnkkgofpifhoeaaW.PrintLast
theorem Pr.set_set (X:Pr) (s:Nat) (a b:Sd):(X.set s a).set s b = X.set s b:=by
 unfold Pr.set
 congr 1
 funext t
 by_cases h:t = s
 ·simp [h]
 ·simp [h]
theorem Moves.then_ {w w1 w2:World} {B gp:Nat} {ge:Nat → Nat} {own own1:Nat → Nat → Prop} {X:Pr} {S S2:Nat → Prop} (hk:Kept w w1 S) (hb:Below B w w1) (ho:Grew w own own1) (h:Moves w1 B gp ge own1 X S2 w2) (hs:∀ k,S2 k → S k ∨ w.heap.size ≤ k):Moves w B gp ge own X S w2:=by
 obtain ⟨o,lv,wv,h1,h2,h3,h4⟩:=h
 exact ⟨o,lv,wv,h1,ho.trans hk.1 h2,hk.then_ h3 hs,hb.trans h4⟩
def sendS (d:Sd) (body:List Int):Sd:=if sendE d.end_ body.length = 0 then noteF (endF d (sendL d.end_ body)) 3 body else endF d (sendL d.end_ body)
theorem sendE_len {L:Lk} {n:Nat} (h:sendE L n = 0):n ≤ 1000000:=by
 unfold sendE at h
 split at h
 ·split at h
  ·exact absurd h (by decide)
  ·omega
 ·exact absurd h (by decide)
set_option maxRecDepth 100000 in
set_option maxHeartbeats 2000000 in
theorem send_no_0 {w:World} {B gp:Nat} {ge:Nat → Nat} {own:Nat → Nat → Prop} {X:Pr} {lv:Nat → Value} {wv:Value} (h:PAt w B gp ge own X lv wv) (hok:(X.sd 0).end_.Ok) (kind i:Int) (body:List Int) (Ab:Option Addr) (cb:Nat) (hC:∀ W':World,Kept w W' (fun k => k = gp ∨ own 1 k ∨ own 3 k) → (Kd.int .u8).C W' Ab body.length body) (hll:(X.sd 0).log.length ≤ 1000000) (hE:¬ sendE (X.sd 0).end_ body.length = 0) :
  Calls Try.prog 109 #[.pointer (some ⟨gp,0,none⟩),.agg #[.int .i64 kind,.int .i64 0,.int .i64 i,.slice Ab body.length cb]] w fun e w' => e = .returned (.int .i64 (sendE (X.sd 0).end_ body.length)) ∧ Moves w B gp ge own (X.set 0 (endF (X.sd 0) (sendL (X.sd 0).end_ body))) (fun k => k = gp ∨ own 1 k ∨ own 3 k) w':=by
 have hba:Below w.heap.size w (w.alloc (.cells #[.int .i64 kind,.int .i64 0,.int .i64 i,.slice Ab body.length cb] 72)):=(Below.refl _ _).alloc (Nat.le_refl _) _
 have H:=Lib.hid h
 have OK:=Lib.hid hok
 have HC:=Lib.hid hC
 have HLL:=Lib.hid hll
 have HE:=Lib.hid hE
 have HB1:=Lib.hid hba
 have HA1:=Lib.hid (heap_alloc_new w (.cells #[.int .i64 kind,.int .i64 0,.int .i64 i,.slice Ab body.length cb] 72))
 have hc1:(w.alloc (.cells #[.int .i64 kind,.int .i64 0,.int .i64 i,.slice Ab body.length cb] 72)).cell? ⟨w.heap.size,1,none⟩ = some (.int .i64 0):=(blk_cell HA1.out 1).trans rfl
 clear h hok hba hC hll hE
 generalize hnb:body.length = nb at *
 have HNB:=Lib.hid hnb
 clear hnb
 go_enter Try.func109,Try.ntmps109
 go_wp2_with fail
 go_quiet (fail)
 rename Nat => nq1
 go_wp2_with fail
 have hbd:=bl_drew (HB1.out.trans (pw_below_drewN (Below.refl _ _) nq1:Below w.heap.size (w.alloc (.cells #[.int .i64 kind,.int .i64 0,.int .i64 i,.slice Ab nb cb] 72)) _))
 have hSS:((w.alloc (.cells #[.int .i64 kind,.int .i64 0,.int .i64 i,.slice Ab nb cb] 72)).drewN nq1).drew.heap[gp]? = some (.cells (prow X ge lv wv) 143 (0,0)) ∧ ((w.alloc (.cells #[.int .i64 kind,.int .i64 0,.int .i64 i,.slice Ab nb cb] 72)).drewN nq1).drew.heap[w.heap.size]? = some (.cells #[.int .i64 kind,.int .i64 0,.int .i64 i,.slice Ab nb cb] 72 (0,0)):=⟨(H.out.sub hbd).blk,HA1.out⟩
 clear hc1 HB1 HA1
 refine start_ (n:=8) (S:=fun w' => w'.heap[gp]? = some (.cells (prow X ge lv wv) 143 (0,0)) ∧ w'.heap[w.heap.size]? = some (.cells #[.int .i64 kind,.int .i64 0,.int .i64 i,.slice Ab nb cb] 72 (0,0))) (ds:=[]) M1A (by kernel_rfl) rfl rfl (hSS) (fun hHeld => ?_)
 generalize ((w.alloc (.cells #[.int .i64 kind,.int .i64 0,.int .i64 i,.slice Ab nb cb] 72)).drewN nq1).drew = w2 at hbd hHeld ⊢
 have HBD:=Lib.hid hbd
 clear hbd
 refine pure_ (i:=0) (N:=some 13) (v:=?_) (a':=?_) M1G rfl rfl (by kernel_rfl) (fun _ _ _ h => h) (Or.inl ⟨by rfl,?_⟩) ?_ ?_
 rotate_left
 ·intro w'
  go_simp
  with_reducible rfl
 rotate_left
 ·simp only [Act.put,sA,sZ,sS]
  rfl
 refine pure_ (i:=1) (N:=some 14) (v:=?_) (a':=?_) M1M rfl rfl (by kernel_rfl) (fun _ _ _ h => h) (Or.inl ⟨by rfl,?_⟩) ?_ ?_
 rotate_left
 ·intro w'
  go_simp
  with_reducible rfl
 rotate_left
 ·simp only [Act.put,sA,sZ,sS]
  rfl
 refine pure_ (i:=2) (N:=some 15) (v:=?_) (a':=?_) M1S rfl rfl (by kernel_rfl) (fun _ _ _ h => h) (Or.inl ⟨by rfl,?_⟩) ?_ ?_
 rotate_left
 ·intro w'
  go_simp
  rfl
 rotate_left
 ·simp only [Act.put,sA,sZ,sS]
  rfl
 refine take_ (i:=3) (N:=some 16) (v:=?_) (a':=?_) M1Y rfl rfl (by kernel_rfl) (fun _ _ _ h => h) (Or.inl ⟨by rfl,?_⟩) hHeld ?_ ?_
 rotate_left
 ·intro w' s0
  have hc2:w'.cell? ⟨gp,0,none⟩ = some (.pointer (some ⟨ge 0,0,none⟩)):=(blk_cell s0.1 0).trans rfl
  clear s0
  go_simp
  rfl
 rotate_left
 ·simp only [Act.put,sA,sZ,sS]
  rfl
 refine pure_ (i:=4) (N:=some 17) (v:=?_) (a':=?_) M24 rfl rfl (by kernel_rfl) (fun _ _ _ h => h) (Or.inl ⟨by rfl,?_⟩) ?_ ?_
 rotate_left
 ·intro w'
  go_simp
  with_reducible rfl
 rotate_left
 ·simp only [Act.put,sA,sZ,sS]
  rfl
 refine take_ (i:=5) (N:=some 18) (v:=?_) (a':=?_) M2a rfl rfl (by kernel_rfl) (fun _ _ _ h => h) (Or.inl ⟨by rfl,?_⟩) hHeld ?_ ?_
 rotate_left
 ·intro w' s0
  have hc3:w'.cell? ⟨w.heap.size,3,none⟩ = some (.slice Ab nb cb):=(blk_cell s0.2 3).trans rfl
  clear s0
  go_simp
  rfl
 rotate_left
 ·simp only [Act.put,sA,sZ,sS]
  rfl
 refine one_ (i:=6) (N:=some 19) M2d rfl rfl (by kernel_rfl) (by decide) (fun K hK => ?_)
 have hQ2:=H.out.sub HBD.out
 refine goes_ Try.func30 (by kernel_rfl) rfl #[.pointer (some ⟨ge 0,0,none⟩),.slice Ab nb cb] (by rfl) rfl rfl (by (try simp only [List.map_toArray,List.map_cons,List.map_nil]); first | done | rfl) ?_
 have hc9:=send_end (hQ2.e 0 (by decide)) hQ2.hB OK.out body Ab cb (by have:=HC.out w2 (Kept.of_below HBD.out _); rwa [← HNB.out] at this)
 rw [HNB.out] at hc9
 refine hc9.mono ?_
 clear hc9
 rintro e w3 ⟨rfl,ht⟩
 refine ⟨_,rfl,?_⟩
 have hT:=hQ2.turn (s:=0) (by decide) ht
 have HT:=Lib.hid hT
 have HKT:=Lib.hid (((Kept.of_below HBD.out _).then_ ht.2.1 (fun k hk => .inl (.inr (.inl hk)))):Kept w w3 (fun k => k = gp ∨ own 1 k ∨ own 3 k))
 have HBT:=Lib.hid ((HBD.out.mono H.out.hB).trans ht.2.2)
 have HZT:=Lib.hid (Nat.le_trans HBD.out.size ht.2.1.1)
 have hS3:w3.heap[gp]? = some (.cells (prow X ge lv wv) 143 (0,0)) ∧ w3.heap[w.heap.size]? = some (.cells #[.int .i64 kind,.int .i64 0,.int .i64 i,.slice Ab nb cb] 72 (0,0)):=⟨blk_kept hHeld.1 ht.2.1 (H.out.gp0 _),blk_kept hHeld.2 ht.2.1 (fun hx => by have:=H.out.lt _ _ hx; omega)⟩
 have HS3:=Lib.hid hS3
 clear hT ht hQ2 hHeld
 refine hK.out _ _ hS3 (fun hHeld => ?_)
 clear hK K hS3
 refine norm_ (a':=?_) ?_ ?_
 rotate_left
 ·show Act.put _ (some 19) _ = _
  simp only [Act.put,sA,sZ,sS]
  rfl
 refine pure_ (i:=7) (N:=some 6) (v:=?_) (a':=?_) M2h rfl rfl (by kernel_rfl) (fun _ _ _ h => h) (Or.inl ⟨by rfl,?_⟩) ?_ ?_
 rotate_left
 ·intro w'
  go_simp
  with_reducible rfl
 rotate_left
 ·simp only [Act.put,sA,sZ,sS]
  rfl
 refine done_ (by kernel_rfl) ?_
 clear hHeld
 have hse:(sendE (X.sd 0).end_ nb == 0) = false:=by simp [HE.out]
 go_wp2_with fail
 all_goals (go_ret; exact ⟨rfl,_,lv,wv,HT.out,Grew.grow _ HBD.out.size,HKT.out,HBT.out⟩)
set_option maxRecDepth 100000 in
set_option maxHeartbeats 2000000 in
theorem send_ok_0 {w:World} {B gp:Nat} {ge:Nat → Nat} {own:Nat → Nat → Prop} {X:Pr} {lv:Nat → Value} {wv:Value} (h:PAt w B gp ge own X lv wv) (hok:(X.sd 0).end_.Ok) (kind i:Int) (body:List Int) (Ab:Option Addr) (cb:Nat) (hC:∀ W':World,Kept w W' (fun k => k = gp ∨ own 1 k ∨ own 3 k) → (Kd.int .u8).C W' Ab body.length body) (hll:(X.sd 0).log.length ≤ 1000000) (hE:sendE (X.sd 0).end_ body.length = 0) :
  Calls Try.prog 109 #[.pointer (some ⟨gp,0,none⟩),.agg #[.int .i64 kind,.int .i64 0,.int .i64 i,.slice Ab body.length cb]] w fun e w' => e = .returned (.int .i64 (sendE (X.sd 0).end_ body.length)) ∧ Moves w B gp ge own (X.set 0 (noteF (endF (X.sd 0) (sendL (X.sd 0).end_ body)) 3 body)) (fun k => k = gp ∨ own 1 k ∨ own 3 k) w':=by
 have hba:Below w.heap.size w (w.alloc (.cells #[.int .i64 kind,.int .i64 0,.int .i64 i,.slice Ab body.length cb] 72)):=(Below.refl _ _).alloc (Nat.le_refl _) _
 have H:=Lib.hid h
 have OK:=Lib.hid hok
 have HC:=Lib.hid hC
 have HBL:=Lib.hid (sendE_len hE)
 have HLL:=Lib.hid hll
 have HE:=Lib.hid hE
 have HB1:=Lib.hid hba
 have HA1:=Lib.hid (heap_alloc_new w (.cells #[.int .i64 kind,.int .i64 0,.int .i64 i,.slice Ab body.length cb] 72))
 have hc1:(w.alloc (.cells #[.int .i64 kind,.int .i64 0,.int .i64 i,.slice Ab body.length cb] 72)).cell? ⟨w.heap.size,1,none⟩ = some (.int .i64 0):=(blk_cell HA1.out 1).trans rfl
 clear h hok hba hC hll hE
 generalize hnb:body.length = nb at *
 have HNB:=Lib.hid hnb
 clear hnb
 go_enter Try.func109,Try.ntmps109
 go_wp2_with fail
 go_quiet (fail)
 rename Nat => nq1
 go_wp2_with fail
 have hbd:=bl_drew (HB1.out.trans (pw_below_drewN (Below.refl _ _) nq1:Below w.heap.size (w.alloc (.cells #[.int .i64 kind,.int .i64 0,.int .i64 i,.slice Ab nb cb] 72)) _))
 have hSS:((w.alloc (.cells #[.int .i64 kind,.int .i64 0,.int .i64 i,.slice Ab nb cb] 72)).drewN nq1).drew.heap[gp]? = some (.cells (prow X ge lv wv) 143 (0,0)) ∧ ((w.alloc (.cells #[.int .i64 kind,.int .i64 0,.int .i64 i,.slice Ab nb cb] 72)).drewN nq1).drew.heap[w.heap.size]? = some (.cells #[.int .i64 kind,.int .i64 0,.int .i64 i,.slice Ab nb cb] 72 (0,0)):=⟨(H.out.sub hbd).blk,HA1.out⟩
 clear hc1 HB1 HA1
 refine start_ (n:=8) (S:=fun w' => w'.heap[gp]? = some (.cells (prow X ge lv wv) 143 (0,0)) ∧ w'.heap[w.heap.size]? = some (.cells #[.int .i64 kind,.int .i64 0,.int .i64 i,.slice Ab nb cb] 72 (0,0))) (ds:=[]) M1A (by kernel_rfl) rfl rfl (hSS) (fun hHeld => ?_)
 generalize ((w.alloc (.cells #[.int .i64 kind,.int .i64 0,.int .i64 i,.slice Ab nb cb] 72)).drewN nq1).drew = w2 at hbd hHeld ⊢
 have HBD:=Lib.hid hbd
 clear hbd
 refine pure_ (i:=0) (N:=some 13) (v:=?_) (a':=?_) M1G rfl rfl (by kernel_rfl) (fun _ _ _ h => h) (Or.inl ⟨by rfl,?_⟩) ?_ ?_
 rotate_left
 ·intro w'
  go_simp
  with_reducible rfl
 rotate_left
 ·simp only [Act.put,sA,sZ,sS]
  rfl
 refine pure_ (i:=1) (N:=some 14) (v:=?_) (a':=?_) M1M rfl rfl (by kernel_rfl) (fun _ _ _ h => h) (Or.inl ⟨by rfl,?_⟩) ?_ ?_
 rotate_left
 ·intro w'
  go_simp
  with_reducible rfl
 rotate_left
 ·simp only [Act.put,sA,sZ,sS]
  rfl
 refine pure_ (i:=2) (N:=some 15) (v:=?_) (a':=?_) M1S rfl rfl (by kernel_rfl) (fun _ _ _ h => h) (Or.inl ⟨by rfl,?_⟩) ?_ ?_
 rotate_left
 ·intro w'
  go_simp
  rfl
 rotate_left
 ·simp only [Act.put,sA,sZ,sS]
  rfl
 refine take_ (i:=3) (N:=some 16) (v:=?_) (a':=?_) M1Y rfl rfl (by kernel_rfl) (fun _ _ _ h => h) (Or.inl ⟨by rfl,?_⟩) hHeld ?_ ?_
 rotate_left
 ·intro w' s0
  have hc2:w'.cell? ⟨gp,0,none⟩ = some (.pointer (some ⟨ge 0,0,none⟩)):=(blk_cell s0.1 0).trans rfl
  clear s0
  go_simp
  rfl
 rotate_left
 ·simp only [Act.put,sA,sZ,sS]
  rfl
 refine pure_ (i:=4) (N:=some 17) (v:=?_) (a':=?_) M24 rfl rfl (by kernel_rfl) (fun _ _ _ h => h) (Or.inl ⟨by rfl,?_⟩) ?_ ?_
 rotate_left
 ·intro w'
  go_simp
  with_reducible rfl
 rotate_left
 ·simp only [Act.put,sA,sZ,sS]
  rfl
 refine take_ (i:=5) (N:=some 18) (v:=?_) (a':=?_) M2a rfl rfl (by kernel_rfl) (fun _ _ _ h => h) (Or.inl ⟨by rfl,?_⟩) hHeld ?_ ?_
 rotate_left
 ·intro w' s0
  have hc3:w'.cell? ⟨w.heap.size,3,none⟩ = some (.slice Ab nb cb):=(blk_cell s0.2 3).trans rfl
  clear s0
  go_simp
  rfl
 rotate_left
 ·simp only [Act.put,sA,sZ,sS]
  rfl
 refine one_ (i:=6) (N:=some 19) M2d rfl rfl (by kernel_rfl) (by decide) (fun K hK => ?_)
 have hQ2:=H.out.sub HBD.out
 refine goes_ Try.func30 (by kernel_rfl) rfl #[.pointer (some ⟨ge 0,0,none⟩),.slice Ab nb cb] (by rfl) rfl rfl (by (try simp only [List.map_toArray,List.map_cons,List.map_nil]); first | done | rfl) ?_
 have hc9:=send_end (hQ2.e 0 (by decide)) hQ2.hB OK.out body Ab cb (by have:=HC.out w2 (Kept.of_below HBD.out _); rwa [← HNB.out] at this)
 rw [HNB.out] at hc9
 refine hc9.mono ?_
 clear hc9
 rintro e w3 ⟨rfl,ht⟩
 refine ⟨_,rfl,?_⟩
 have hT:=hQ2.turn (s:=0) (by decide) ht
 have HT:=Lib.hid hT
 have HKT:=Lib.hid (((Kept.of_below HBD.out _).then_ ht.2.1 (fun k hk => .inl (.inr (.inl hk)))):Kept w w3 (fun k => k = gp ∨ own 1 k ∨ own 3 k))
 have HBT:=Lib.hid ((HBD.out.mono H.out.hB).trans ht.2.2)
 have HZT:=Lib.hid (Nat.le_trans HBD.out.size ht.2.1.1)
 have hS3:w3.heap[gp]? = some (.cells (prow X ge lv wv) 143 (0,0)) ∧ w3.heap[w.heap.size]? = some (.cells #[.int .i64 kind,.int .i64 0,.int .i64 i,.slice Ab nb cb] 72 (0,0)):=⟨blk_kept hHeld.1 ht.2.1 (H.out.gp0 _),blk_kept hHeld.2 ht.2.1 (fun hx => by have:=H.out.lt _ _ hx; omega)⟩
 have HS3:=Lib.hid hS3
 clear hT ht hQ2 hHeld
 refine hK.out _ _ hS3 (fun hHeld => ?_)
 clear hK K hS3
 refine norm_ (a':=?_) ?_ ?_
 rotate_left
 ·show Act.put _ (some 19) _ = _
  simp only [Act.put,sA,sZ,sS]
  rfl
 refine pure_ (i:=7) (N:=some 6) (v:=?_) (a':=?_) M2h rfl rfl (by kernel_rfl) (fun _ _ _ h => h) (Or.inl ⟨by rfl,?_⟩) ?_ ?_
 rotate_left
 ·intro w'
  go_simp
  with_reducible rfl
 rotate_left
 ·simp only [Act.put,sA,sZ,sS]
  rfl
 refine done_ (by kernel_rfl) ?_
 clear hHeld
 have hse:=HE.out
 have HSE:=Lib.hid hse
 rw [hse]
 clear hse
 have hc3:w3.cell? ⟨w.heap.size,3,none⟩ = some (.slice Ab nb cb):=(blk_cell HS3.out.2 3).trans rfl
 go_wp2_with (go_at_call 127; (have hc9:=note_0 HT.out 3 body Ab cb (by have:=HC.out w3 HKT.out; rwa [← HNB.out] at this) (by rw [HNB.out]; exact HBL.out) (by rw [Pr.set_eq]; exact HLL.out)); rw [HNB.out] at hc9; (with_reducible refine hc9.mono ?_); clear hc9; rintro e w4 ⟨rfl,hM⟩; (have HM:=Lib.hid hM); clear hM)
 all_goals (go_ret; refine ⟨(by rw [HSE.out]; rfl),?_⟩)
 have hM:=HM.out
 rw [Pr.set_set,Pr.set_eq] at hM
 exact Moves.then_ HKT.out HBT.out (Grew.grow _ HBD.out.size) hM (fun k hk => hk.elim (fun x => .inl (.inl x)) (fun x => x.elim (fun y => .inl (.inr (.inr y))) (fun y => .inr (by have:=HBD.out.size; omega))))
set_option maxRecDepth 100000 in
set_option maxHeartbeats 2000000 in
theorem send_no_1 {w:World} {B gp:Nat} {ge:Nat → Nat} {own:Nat → Nat → Prop} {X:Pr} {lv:Nat → Value} {wv:Value} (h:PAt w B gp ge own X lv wv) (hok:(X.sd 1).end_.Ok) (kind i:Int) (body:List Int) (Ab:Option Addr) (cb:Nat) (hC:∀ W':World,Kept w W' (fun k => k = gp ∨ own 2 k ∨ own 4 k) → (Kd.int .u8).C W' Ab body.length body) (hll:(X.sd 1).log.length ≤ 1000000) (hE:¬ sendE (X.sd 1).end_ body.length = 0) :
  Calls Try.prog 109 #[.pointer (some ⟨gp,0,none⟩),.agg #[.int .i64 kind,.int .i64 1,.int .i64 i,.slice Ab body.length cb]] w fun e w' => e = .returned (.int .i64 (sendE (X.sd 1).end_ body.length)) ∧ Moves w B gp ge own (X.set 1 (endF (X.sd 1) (sendL (X.sd 1).end_ body))) (fun k => k = gp ∨ own 2 k ∨ own 4 k) w':=by
 have hba:Below w.heap.size w (w.alloc (.cells #[.int .i64 kind,.int .i64 1,.int .i64 i,.slice Ab body.length cb] 72)):=(Below.refl _ _).alloc (Nat.le_refl _) _
 have H:=Lib.hid h
 have OK:=Lib.hid hok
 have HC:=Lib.hid hC
 have HLL:=Lib.hid hll
 have HE:=Lib.hid hE
 have HB1:=Lib.hid hba
 have HA1:=Lib.hid (heap_alloc_new w (.cells #[.int .i64 kind,.int .i64 1,.int .i64 i,.slice Ab body.length cb] 72))
 have hc1:(w.alloc (.cells #[.int .i64 kind,.int .i64 1,.int .i64 i,.slice Ab body.length cb] 72)).cell? ⟨w.heap.size,1,none⟩ = some (.int .i64 1):=(blk_cell HA1.out 1).trans rfl
 clear h hok hba hC hll hE
 generalize hnb:body.length = nb at *
 have HNB:=Lib.hid hnb
 clear hnb
 go_enter Try.func109,Try.ntmps109
 go_wp2_with fail
 go_quiet (fail)
 rename Nat => nq1
 go_wp2_with fail
 have hbd:=bl_drew (HB1.out.trans (pw_below_drewN (Below.refl _ _) nq1:Below w.heap.size (w.alloc (.cells #[.int .i64 kind,.int .i64 1,.int .i64 i,.slice Ab nb cb] 72)) _))
 have hSS:((w.alloc (.cells #[.int .i64 kind,.int .i64 1,.int .i64 i,.slice Ab nb cb] 72)).drewN nq1).drew.heap[gp]? = some (.cells (prow X ge lv wv) 143 (0,0)) ∧ ((w.alloc (.cells #[.int .i64 kind,.int .i64 1,.int .i64 i,.slice Ab nb cb] 72)).drewN nq1).drew.heap[w.heap.size]? = some (.cells #[.int .i64 kind,.int .i64 1,.int .i64 i,.slice Ab nb cb] 72 (0,0)):=⟨(H.out.sub hbd).blk,HA1.out⟩
 clear hc1 HB1 HA1
 refine start_ (n:=8) (S:=fun w' => w'.heap[gp]? = some (.cells (prow X ge lv wv) 143 (0,0)) ∧ w'.heap[w.heap.size]? = some (.cells #[.int .i64 kind,.int .i64 1,.int .i64 i,.slice Ab nb cb] 72 (0,0))) (ds:=[]) M1A (by kernel_rfl) rfl rfl (hSS) (fun hHeld => ?_)
 generalize ((w.alloc (.cells #[.int .i64 kind,.int .i64 1,.int .i64 i,.slice Ab nb cb] 72)).drewN nq1).drew = w2 at hbd hHeld ⊢
 have HBD:=Lib.hid hbd
 clear hbd
 refine pure_ (i:=0) (N:=some 13) (v:=?_) (a':=?_) M1G rfl rfl (by kernel_rfl) (fun _ _ _ h => h) (Or.inl ⟨by rfl,?_⟩) ?_ ?_
 rotate_left
 ·intro w'
  go_simp
  with_reducible rfl
 rotate_left
 ·simp only [Act.put,sA,sZ,sS]
  rfl
 refine pure_ (i:=1) (N:=some 14) (v:=?_) (a':=?_) M1M rfl rfl (by kernel_rfl) (fun _ _ _ h => h) (Or.inl ⟨by rfl,?_⟩) ?_ ?_
 rotate_left
 ·intro w'
  go_simp
  with_reducible rfl
 rotate_left
 ·simp only [Act.put,sA,sZ,sS]
  rfl
 refine pure_ (i:=2) (N:=some 15) (v:=?_) (a':=?_) M1S rfl rfl (by kernel_rfl) (fun _ _ _ h => h) (Or.inl ⟨by rfl,?_⟩) ?_ ?_
 rotate_left
 ·intro w'
  go_simp
  rfl
 rotate_left
 ·simp only [Act.put,sA,sZ,sS]
  rfl
 refine take_ (i:=3) (N:=some 16) (v:=?_) (a':=?_) M1Y rfl rfl (by kernel_rfl) (fun _ _ _ h => h) (Or.inl ⟨by rfl,?_⟩) hHeld ?_ ?_
 rotate_left
 ·intro w' s0
  have hc2:w'.cell? ⟨gp,9,none⟩ = some (.pointer (some ⟨ge 1,0,none⟩)):=(blk_cell s0.1 9).trans rfl
  clear s0
  go_simp
  rfl
 rotate_left
 ·simp only [Act.put,sA,sZ,sS]
  rfl
 refine pure_ (i:=4) (N:=some 17) (v:=?_) (a':=?_) M24 rfl rfl (by kernel_rfl) (fun _ _ _ h => h) (Or.inl ⟨by rfl,?_⟩) ?_ ?_
 rotate_left
 ·intro w'
  go_simp
  with_reducible rfl
 rotate_left
 ·simp only [Act.put,sA,sZ,sS]
  rfl
 refine take_ (i:=5) (N:=some 18) (v:=?_) (a':=?_) M2a rfl rfl (by kernel_rfl) (fun _ _ _ h => h) (Or.inl ⟨by rfl,?_⟩) hHeld ?_ ?_
 rotate_left
 ·intro w' s0
  have hc3:w'.cell? ⟨w.heap.size,3,none⟩ = some (.slice Ab nb cb):=(blk_cell s0.2 3).trans rfl
  clear s0
  go_simp
  rfl
 rotate_left
 ·simp only [Act.put,sA,sZ,sS]
  rfl
 refine one_ (i:=6) (N:=some 19) M2d rfl rfl (by kernel_rfl) (by decide) (fun K hK => ?_)
 have hQ2:=H.out.sub HBD.out
 refine goes_ Try.func30 (by kernel_rfl) rfl #[.pointer (some ⟨ge 1,0,none⟩),.slice Ab nb cb] (by rfl) rfl rfl (by (try simp only [List.map_toArray,List.map_cons,List.map_nil]); first | done | rfl) ?_
 have hc9:=send_end (hQ2.e 1 (by decide)) hQ2.hB OK.out body Ab cb (by have:=HC.out w2 (Kept.of_below HBD.out _); rwa [← HNB.out] at this)
 rw [HNB.out] at hc9
 refine hc9.mono ?_
 clear hc9
 rintro e w3 ⟨rfl,ht⟩
 refine ⟨_,rfl,?_⟩
 have hT:=hQ2.turn (s:=1) (by decide) ht
 have HT:=Lib.hid hT
 have HKT:=Lib.hid (((Kept.of_below HBD.out _).then_ ht.2.1 (fun k hk => .inl (.inr (.inl hk)))):Kept w w3 (fun k => k = gp ∨ own 2 k ∨ own 4 k))
 have HBT:=Lib.hid ((HBD.out.mono H.out.hB).trans ht.2.2)
 have HZT:=Lib.hid (Nat.le_trans HBD.out.size ht.2.1.1)
 have hS3:w3.heap[gp]? = some (.cells (prow X ge lv wv) 143 (0,0)) ∧ w3.heap[w.heap.size]? = some (.cells #[.int .i64 kind,.int .i64 1,.int .i64 i,.slice Ab nb cb] 72 (0,0)):=⟨blk_kept hHeld.1 ht.2.1 (H.out.gp0 _),blk_kept hHeld.2 ht.2.1 (fun hx => by have:=H.out.lt _ _ hx; omega)⟩
 have HS3:=Lib.hid hS3
 clear hT ht hQ2 hHeld
 refine hK.out _ _ hS3 (fun hHeld => ?_)
 clear hK K hS3
 refine norm_ (a':=?_) ?_ ?_
 rotate_left
 ·show Act.put _ (some 19) _ = _
  simp only [Act.put,sA,sZ,sS]
  rfl
 refine pure_ (i:=7) (N:=some 6) (v:=?_) (a':=?_) M2h rfl rfl (by kernel_rfl) (fun _ _ _ h => h) (Or.inl ⟨by rfl,?_⟩) ?_ ?_
 rotate_left
 ·intro w'
  go_simp
  with_reducible rfl
 rotate_left
 ·simp only [Act.put,sA,sZ,sS]
  rfl
 refine done_ (by kernel_rfl) ?_
 clear hHeld
 have hse:(sendE (X.sd 1).end_ nb == 0) = false:=by simp [HE.out]
 go_wp2_with fail
 all_goals (go_ret; exact ⟨rfl,_,lv,wv,HT.out,Grew.grow _ HBD.out.size,HKT.out,HBT.out⟩)
set_option maxRecDepth 100000 in
set_option maxHeartbeats 2000000 in
theorem send_ok_1 {w:World} {B gp:Nat} {ge:Nat → Nat} {own:Nat → Nat → Prop} {X:Pr} {lv:Nat → Value} {wv:Value} (h:PAt w B gp ge own X lv wv) (hok:(X.sd 1).end_.Ok) (kind i:Int) (body:List Int) (Ab:Option Addr) (cb:Nat) (hC:∀ W':World,Kept w W' (fun k => k = gp ∨ own 2 k ∨ own 4 k) → (Kd.int .u8).C W' Ab body.length body) (hll:(X.sd 1).log.length ≤ 1000000) (hE:sendE (X.sd 1).end_ body.length = 0) :
  Calls Try.prog 109 #[.pointer (some ⟨gp,0,none⟩),.agg #[.int .i64 kind,.int .i64 1,.int .i64 i,.slice Ab body.length cb]] w fun e w' => e = .returned (.int .i64 (sendE (X.sd 1).end_ body.length)) ∧ Moves w B gp ge own (X.set 1 (noteF (endF (X.sd 1) (sendL (X.sd 1).end_ body)) 3 body)) (fun k => k = gp ∨ own 2 k ∨ own 4 k) w':=by
 have hba:Below w.heap.size w (w.alloc (.cells #[.int .i64 kind,.int .i64 1,.int .i64 i,.slice Ab body.length cb] 72)):=(Below.refl _ _).alloc (Nat.le_refl _) _
 have H:=Lib.hid h
 have OK:=Lib.hid hok
 have HC:=Lib.hid hC
 have HBL:=Lib.hid (sendE_len hE)
 have HLL:=Lib.hid hll
 have HE:=Lib.hid hE
 have HB1:=Lib.hid hba
 have HA1:=Lib.hid (heap_alloc_new w (.cells #[.int .i64 kind,.int .i64 1,.int .i64 i,.slice Ab body.length cb] 72))
 have hc1:(w.alloc (.cells #[.int .i64 kind,.int .i64 1,.int .i64 i,.slice Ab body.length cb] 72)).cell? ⟨w.heap.size,1,none⟩ = some (.int .i64 1):=(blk_cell HA1.out 1).trans rfl
 clear h hok hba hC hll hE
 generalize hnb:body.length = nb at *
 have HNB:=Lib.hid hnb
 clear hnb
 go_enter Try.func109,Try.ntmps109
 go_wp2_with fail
 go_quiet (fail)
 rename Nat => nq1
 go_wp2_with fail
 have hbd:=bl_drew (HB1.out.trans (pw_below_drewN (Below.refl _ _) nq1:Below w.heap.size (w.alloc (.cells #[.int .i64 kind,.int .i64 1,.int .i64 i,.slice Ab nb cb] 72)) _))
 have hSS:((w.alloc (.cells #[.int .i64 kind,.int .i64 1,.int .i64 i,.slice Ab nb cb] 72)).drewN nq1).drew.heap[gp]? = some (.cells (prow X ge lv wv) 143 (0,0)) ∧ ((w.alloc (.cells #[.int .i64 kind,.int .i64 1,.int .i64 i,.slice Ab nb cb] 72)).drewN nq1).drew.heap[w.heap.size]? = some (.cells #[.int .i64 kind,.int .i64 1,.int .i64 i,.slice Ab nb cb] 72 (0,0)):=⟨(H.out.sub hbd).blk,HA1.out⟩
 clear hc1 HB1 HA1
 refine start_ (n:=8) (S:=fun w' => w'.heap[gp]? = some (.cells (prow X ge lv wv) 143 (0,0)) ∧ w'.heap[w.heap.size]? = some (.cells #[.int .i64 kind,.int .i64 1,.int .i64 i,.slice Ab nb cb] 72 (0,0))) (ds:=[]) M1A (by kernel_rfl) rfl rfl (hSS) (fun hHeld => ?_)
 generalize ((w.alloc (.cells #[.int .i64 kind,.int .i64 1,.int .i64 i,.slice Ab nb cb] 72)).drewN nq1).drew = w2 at hbd hHeld ⊢
 have HBD:=Lib.hid hbd
 clear hbd
 refine pure_ (i:=0) (N:=some 13) (v:=?_) (a':=?_) M1G rfl rfl (by kernel_rfl) (fun _ _ _ h => h) (Or.inl ⟨by rfl,?_⟩) ?_ ?_
 rotate_left
 ·intro w'
  go_simp
  with_reducible rfl
 rotate_left
 ·simp only [Act.put,sA,sZ,sS]
  rfl
 refine pure_ (i:=1) (N:=some 14) (v:=?_) (a':=?_) M1M rfl rfl (by kernel_rfl) (fun _ _ _ h => h) (Or.inl ⟨by rfl,?_⟩) ?_ ?_
 rotate_left
 ·intro w'
  go_simp
  with_reducible rfl
 rotate_left
 ·simp only [Act.put,sA,sZ,sS]
  rfl
 refine pure_ (i:=2) (N:=some 15) (v:=?_) (a':=?_) M1S rfl rfl (by kernel_rfl) (fun _ _ _ h => h) (Or.inl ⟨by rfl,?_⟩) ?_ ?_
 rotate_left
 ·intro w'
  go_simp
  rfl
 rotate_left
 ·simp only [Act.put,sA,sZ,sS]
  rfl
 refine take_ (i:=3) (N:=some 16) (v:=?_) (a':=?_) M1Y rfl rfl (by kernel_rfl) (fun _ _ _ h => h) (Or.inl ⟨by rfl,?_⟩) hHeld ?_ ?_
 rotate_left
 ·intro w' s0
  have hc2:w'.cell? ⟨gp,9,none⟩ = some (.pointer (some ⟨ge 1,0,none⟩)):=(blk_cell s0.1 9).trans rfl
  clear s0
  go_simp
  rfl
 rotate_left
 ·simp only [Act.put,sA,sZ,sS]
  rfl
 refine pure_ (i:=4) (N:=some 17) (v:=?_) (a':=?_) M24 rfl rfl (by kernel_rfl) (fun _ _ _ h => h) (Or.inl ⟨by rfl,?_⟩) ?_ ?_
 rotate_left
 ·intro w'
  go_simp
  with_reducible rfl
 rotate_left
 ·simp only [Act.put,sA,sZ,sS]
  rfl
 refine take_ (i:=5) (N:=some 18) (v:=?_) (a':=?_) M2a rfl rfl (by kernel_rfl) (fun _ _ _ h => h) (Or.inl ⟨by rfl,?_⟩) hHeld ?_ ?_
 rotate_left
 ·intro w' s0
  have hc3:w'.cell? ⟨w.heap.size,3,none⟩ = some (.slice Ab nb cb):=(blk_cell s0.2 3).trans rfl
  clear s0
  go_simp
  rfl
 rotate_left
 ·simp only [Act.put,sA,sZ,sS]
  rfl
 refine one_ (i:=6) (N:=some 19) M2d rfl rfl (by kernel_rfl) (by decide) (fun K hK => ?_)
 have hQ2:=H.out.sub HBD.out
 refine goes_ Try.func30 (by kernel_rfl) rfl #[.pointer (some ⟨ge 1,0,none⟩),.slice Ab nb cb] (by rfl) rfl rfl (by (try simp only [List.map_toArray,List.map_cons,List.map_nil]); first | done | rfl) ?_
 have hc9:=send_end (hQ2.e 1 (by decide)) hQ2.hB OK.out body Ab cb (by have:=HC.out w2 (Kept.of_below HBD.out _); rwa [← HNB.out] at this)
 rw [HNB.out] at hc9
 refine hc9.mono ?_
 clear hc9
 rintro e w3 ⟨rfl,ht⟩
 refine ⟨_,rfl,?_⟩
 have hT:=hQ2.turn (s:=1) (by decide) ht
 have HT:=Lib.hid hT
 have HKT:=Lib.hid (((Kept.of_below HBD.out _).then_ ht.2.1 (fun k hk => .inl (.inr (.inl hk)))):Kept w w3 (fun k => k = gp ∨ own 2 k ∨ own 4 k))
 have HBT:=Lib.hid ((HBD.out.mono H.out.hB).trans ht.2.2)
 have HZT:=Lib.hid (Nat.le_trans HBD.out.size ht.2.1.1)
 have hS3:w3.heap[gp]? = some (.cells (prow X ge lv wv) 143 (0,0)) ∧ w3.heap[w.heap.size]? = some (.cells #[.int .i64 kind,.int .i64 1,.int .i64 i,.slice Ab nb cb] 72 (0,0)):=⟨blk_kept hHeld.1 ht.2.1 (H.out.gp0 _),blk_kept hHeld.2 ht.2.1 (fun hx => by have:=H.out.lt _ _ hx; omega)⟩
 have HS3:=Lib.hid hS3
 clear hT ht hQ2 hHeld
 refine hK.out _ _ hS3 (fun hHeld => ?_)
 clear hK K hS3
 refine norm_ (a':=?_) ?_ ?_
 rotate_left
 ·show Act.put _ (some 19) _ = _
  simp only [Act.put,sA,sZ,sS]
  rfl
 refine pure_ (i:=7) (N:=some 6) (v:=?_) (a':=?_) M2h rfl rfl (by kernel_rfl) (fun _ _ _ h => h) (Or.inl ⟨by rfl,?_⟩) ?_ ?_
 rotate_left
 ·intro w'
  go_simp
  with_reducible rfl
 rotate_left
 ·simp only [Act.put,sA,sZ,sS]
  rfl
 refine done_ (by kernel_rfl) ?_
 clear hHeld
 have hse:=HE.out
 have HSE:=Lib.hid hse
 rw [hse]
 clear hse
 have hc3:w3.cell? ⟨w.heap.size,3,none⟩ = some (.slice Ab nb cb):=(blk_cell HS3.out.2 3).trans rfl
 go_wp2_with (go_at_call 127; (have hc9:=note_1 HT.out 3 body Ab cb (by have:=HC.out w3 HKT.out; rwa [← HNB.out] at this) (by rw [HNB.out]; exact HBL.out) (by rw [Pr.set_eq]; exact HLL.out)); rw [HNB.out] at hc9; (with_reducible refine hc9.mono ?_); clear hc9; rintro e w4 ⟨rfl,hM⟩; (have HM:=Lib.hid hM); clear hM)
 all_goals (go_ret; refine ⟨(by rw [HSE.out]; rfl),?_⟩)
 have hM:=HM.out
 rw [Pr.set_set,Pr.set_eq] at hM
 exact Moves.then_ HKT.out HBT.out (Grew.grow _ HBD.out.size) hM (fun k hk => hk.elim (fun x => .inl (.inl x)) (fun x => x.elim (fun y => .inl (.inr (.inr y))) (fun y => .inr (by have:=HBD.out.size; omega))))
end Go.Proofs.Ytnkkgofpifhoeaa.Pr
end
section
namespace Go.Proofs.Ytnkkgofpifhoeaa.Pr
open Go.RowKit Go.Proofs.Ytnkkgofpifhoeaa.Base Go.Proofs.Ytnkkgofpifhoeaa.Steps Go.Proofs.Ytnkkgofpifhoeaa.Lk Go.Proofs.Ytnkkgofpifhoeaa.Win Go.Proofs.YtnkkgofpifhoeaaW.PrintWords
def growx (own:Nat → Nat → Prop) (i:Nat) (okb:Nat → Prop) (w w':World):Nat → Nat → Prop:=fun j k => own j k ∨ j = i ∧ w.heap.size ≤ k ∧ k < w'.heap.size ∧ ¬ okb k
theorem Grew.growx {w w2 w3:World} {own:Nat → Nat → Prop} {okb:Nat → Prop} (i:Nat) (h:w.heap.size ≤ w2.heap.size):Grew w own (growx own i okb w2 w3):=⟨fun _ _ h => .inl h,fun _ _ hx => hx.elim .inl (fun y => .inr (Nat.le_trans h y.2.1))⟩
section
variable {w w':World} {B gp:Nat} {ge:Nat → Nat} {own:Nat → Nat → Prop} {X:Pr} {lv:Nat → Value} {wv:Value} (h:PAt w B gp ge own X lv wv)
include h
theorem PAt.turnx {s:Nat} (hs:s < 2) {L:Lk} {okb:Nat → Prop} (hE:Lk.End w' B (fun k => own (1 + s) k ∨ (w.heap.size ≤ k ∧ k < w'.heap.size ∧ ¬ okb k)) (ge s) L) (hk:Kept w w' (own (1 + s))):PAt w' B gp ge (growx own (1 + s) okb w w') (X.set s (endF (X.sd s) L)) lv wv:=by
 have hz:=hk.1
 have hin:∀ j k,growx own (1 + s) okb w w' j k → grow own (1 + s) w w' j k:=fun j k hx => hx.elim .inl (fun y => .inr ⟨y.1,y.2.1,y.2.2.1⟩)
 have hrow:prow (X.set s (endF (X.sd s) L)) ge lv wv = prow X ge lv wv:=by
  have h0:s = 0 ∨ s = 1:=by omega
  rcases h0 with rfl | rfl <;> rfl
 refine ⟨hrow ▸ blk_kept h.blk hk (h.gp0 _),h.low,fun i hi => grow_gp (w':=w') h (1 + s) i (hin _ _ hi),fun i j k hi hj => grow_disj (w':=w') h (1 + s) i j k (hin _ _ hi) (hin _ _ hj),fun i k hi => grow_lt h (1 + s) hz i k (hin _ _ hi),fun t ht' => ?_,fun t ht' => ?_,(h.way.kept hk (fun k hx hy => by have:=h.disj 5 (1 + s) k hx hy; omega)).mono (fun k hx => .inl hx)⟩
 ·by_cases hts:t = s
  ·subst hts
   rw [Pr.set_eq]
   exact hE.mono (fun k hx => hx.elim .inl (fun hn => .inr ⟨rfl,hn⟩))
  ·rw [Pr.set_ne X hts]
   exact ((h.e t ht').kept hk (fun k hx hy => by have:=h.disj (1 + t) (1 + s) k hx hy; omega)).mono (fun k hx => .inl hx)
 ·have:((X.set s (endF (X.sd s) L)).sd t).log = (X.sd t).log:=by
   by_cases hts:t = s
   ·subst hts; rw [Pr.set_eq]; rfl
   ·rw [Pr.set_ne X hts]
  rw [this]
  exact Kd.R_mono (Kd.R_kept (h.l t ht') hk (fun k hx hy => by have:=h.disj (3 + t) (1 + s) k hx hy; omega)) (fun k hx => .inl hx)
theorem PAt.newrow {X':Pr} (hb:w'.heap[gp]? = some (.cells (prow X' ge lv wv) 143 (0,0))) (hk:Kept w w' (fun k => k = gp)) (he:∀ s,(X'.sd s).end_ = (X.sd s).end_) (hl:∀ s,(X'.sd s).log = (X.sd s).log) (hw:X'.way = X.way):PAt w' B gp ge own X' lv wv:=by
 have hd:∀ i k,own i k → ¬ k = gp:=fun i k hi he => h.gp0 i (he ▸ hi)
 refine ⟨hb,h.low,h.gp0,h.disj,fun i k hx => Nat.lt_of_lt_of_le (h.lt i k hx) hk.1,fun s hs => ?_,fun s hs => ?_,?_⟩
 ·rw [he]; exact (h.e s hs).kept hk (hd _)
 ·rw [hl]; exact Kd.R_kept (h.l s hs) hk (hd _)
 ·rw [hw]; exact h.way.kept hk (hd _)
end
structure DV (w:World) (B gp:Nat) (ge:Nat → Nat) (own:Nat → Nat → Prop) (X:Pr) (S:Nat → Prop) (g7:Nat) (vb:Value) (body:List Int) (cs:Array Value) (wz:World) (own':Nat → Nat → Prop) (lv:Nat → Value) (wv:Value) (okb:Nat → Prop):Prop where
 at_:PAt wz B gp ge own' X lv wv
 grew:Grew w own own'
 row:(Kd.int .u8).R 5 wz B okb vb body
 ap:∀ k,okb k → k ≠ gp ∧ ∀ i,¬ own' i k
 t7:wz.heap[g7]? = some (.cells cs 56 (0,0))
 n7:g7 ≠ gp ∧ (∀ i,¬ own' i g7) ∧ ¬ okb g7
 kept:Kept w wz S
 below:Below B w wz
 new7:w.heap.size ≤ g7
def DVE (w:World) (B gp:Nat) (ge:Nat → Nat) (own:Nat → Nat → Prop) (X:Pr) (S:Nat → Prop) (g7:Nat) (vb:Value) (body:List Int) (cs:Array Value) (wz:World):Prop:=∃ own' lv wv okb,DV w B gp ge own X S g7 vb body cs wz own' lv wv okb
section
variable {w W w':World} {B gp s g7:Nat} {ge:Nat → Nat} {own own1:Nat → Nat → Prop} {X1:Pr} {S:Nat → Prop} {lv1:Nat → Value} {wv1:Value} {L':Lk} {hd up dn:Bool} {body:List Int} {e:Ending} {cs:Array Value}
theorem DV.ahead (hs:s < 2) (hP:PAt W B gp ge own1 X1 lv1 wv1) (hg:Grew w own own1) (hk:Kept w W S) (hb:Below B w W) (hS:∀ k,own1 (1 + s) k → S k ∨ w.heap.size ≤ k) (h7:W.heap[g7]? = some (.cells cs 56 (0,0))) (hn:g7 ≠ gp ∧ ∀ i,¬ own1 i g7) (hnew:w.heap.size ≤ g7) (hT:Took W B (own1 (1 + s)) (ge s) L' hd up dn body e w') :
  ∃ vb,e = .returned (.tuple #[.agg #[.bool hd,.bool up,.bool dn,vb],.int .i64 0]) ∧ (∃ A c,vb = .slice A body.length c) ∧ DVE w B gp ge own (X1.set s (endF (X1.sd s) L')) S g7 vb body cs w':=by
 obtain ⟨vb,okb,he,hR,hok,hE,hK,hB2⟩:=hT
 have hl7:=blk_lt h7
 have hlg:=blk_lt hP.blk
 refine ⟨vb,he,Kd.R_slice hR,_,lv1,wv1,okb,hP.turnx hs hE hK,hg.trans hk.1 (Grew.growx _ (Nat.le_refl _)),hR,fun k hx => ?_,blk_kept h7 hK (hn.2 _),⟨hn.1,fun i hi => ?_,fun hx => by have:=hok _ hx; omega⟩,hk.then_ hK hS,hb.trans hB2,hnew⟩
 ·have h1:=hok k hx
  refine ⟨by omega,fun i hi => ?_⟩
  rcases hi with hi | hi
  ·have:=hP.lt i k hi; omega
  ·exact hi.2.2.2 hx
 ·rcases hi with hi | hi
  ·exact hn.2 i hi
  ·omega
theorem DV.behind (hs:s < 2) (hP:PAt W B gp ge own1 X1 lv1 wv1) (hg:Grew w own own1) (hk:Kept w W S) (hb:Below B w W) (hS:∀ k,own1 (1 + s) k → S k ∨ w.heap.size ≤ k) (hT:Took W B (own1 (1 + s)) (ge s) L' hd up dn body e w') :
  ∃ vb,e = .returned (.tuple #[.agg #[.bool hd,.bool up,.bool dn,vb],.int .i64 0]) ∧ (∃ A c,vb = .slice A body.length c) ∧ ∀ w4 g7,g7 = w'.heap.size → w4.heap[g7]? = some (.cells cs 56 (0,0)) → Below w'.heap.size w' w4 → DVE w B gp ge own (X1.set s (endF (X1.sd s) L')) S g7 vb body cs w4:=by
 obtain ⟨vb,okb,he,hR,hok,hE,hK,hB2⟩:=hT
 have hP2:=hP.turnx hs hE hK
 have hz:=hK.1
 have hz0:=hk.1
 refine ⟨vb,he,Kd.R_slice hR,fun w4 g7 h7 h8 hb4 => ⟨_,lv1,wv1,okb,hP2.sub hb4,hg.trans hk.1 (Grew.growx _ (Nat.le_refl _)),Kd.R_below hR hb4,fun k hx => ?_,h8,⟨?_,fun i hi => ?_,fun hx => ?_⟩,(hk.then_ hK hS).below hb4,(hb.trans hB2).trans (hb4.mono (hP2.hB)),by omega⟩⟩
 ·have h1:=hok k hx
  have hlg:=blk_lt hP.blk
  refine ⟨by omega,fun i hi => ?_⟩
  rcases hi with hi | hi
  ·have:=hP.lt i k hi; omega
  ·exact hi.2.2.2 hx
 ·have:=blk_lt hP2.blk; omega
 ·have:=hP2.lt i g7 hi; omega
 ·have:=hok _ hx; omega
end
section
variable {w wz w1:World} {B gp g7:Nat} {ge:Nat → Nat} {own own':Nat → Nat → Prop} {X X':Pr} {S okb:Nat → Prop} {lv:Nat → Value} {wv vb:Value} {body:List Int} {cs cs':Array Value} (h:DV w B gp ge own X S g7 vb body cs wz own' lv wv okb)
include h
theorem DV.sub (hb:Below wz.heap.size wz w1):DV w B gp ge own X S g7 vb body cs w1 own' lv wv okb :=
 ⟨h.at_.sub hb,h.grew,Kd.R_below h.row hb,h.ap,(hb.block g7 (blk_lt h.t7)).trans h.t7,h.n7,h.kept.below hb,h.below.trans (hb.mono h.at_.hB),h.new7⟩
theorem DV.write (hB:B ≤ w.heap.size) (hc:w1.heap[g7]? = some (.cells cs' 56 (0,0))) (ha:Steps.At g7 wz w1):DV w B gp ge own X S g7 vb body cs' w1 own' lv wv okb:=by
 have hk:=kept_at' ha
 have hn:=h.new7
 exact ⟨h.at_.kept hk (fun e => h.n7.1 e.symm) (fun i k hi e => h.n7.2.1 i (e ▸ hi)),h.grew,Kd.R_kept h.row hk (fun k hx e => h.n7.2.2 (e ▸ hx)),h.ap,hc,h.n7,h.kept.then_ hk (fun k e => .inr (e ▸ hn)),ha.below h.below (Nat.le_trans hB hn),hn⟩
theorem DV.newrow (hS:S gp) (hb:w1.heap[gp]? = some (.cells (prow X' ge lv wv) 143 (0,0))) (hk:Kept wz w1 (fun k => k = gp)) (hbl:Below B wz w1) (he:∀ s,(X'.sd s).end_ = (X.sd s).end_) (hl:∀ s,(X'.sd s).log = (X.sd s).log) (hw:X'.way = X.way):DV w B gp ge own X' S g7 vb body cs w1 own' lv wv okb :=
 ⟨h.at_.newrow hb hk he hl hw,h.grew,Kd.R_kept h.row hk (fun k hx e => (h.ap k hx).1 e),h.ap,blk_kept h.t7 hk h.n7.1,h.n7,h.kept.then_ hk (fun k e => .inl (e ▸ hS)),h.below.trans hbl,h.new7⟩
end
theorem six_put {w:World} {g:Nat} {t:TypeId} {cs cs':Array Value} (h:w.heap[g]? = some (.cells cs t (0,0))) (o:Nat) (a b c d e f:Value) (he:(((((cs.setIfInBounds o a).setIfInBounds (o + 1) b).setIfInBounds (o + 2) c).setIfInBounds (o + 3) d).setIfInBounds (o + 4) e).setIfInBounds (o + 5) f = cs') {B:Nat} (hB:B ≤ g) :
  (w.setCells g o [a,b,c,d,e,f]).heap[g]? = some (.cells cs' t (0,0)) ∧ Kept w (w.setCells g o [a,b,c,d,e,f]) (fun k => k = g) ∧ Below B w (w.setCells g o [a,b,c,d,e,f]):=by
 refine ⟨?_,?_,?_⟩
 ·exact blk_put (blk_put (blk_put (blk_put (blk_put (blk_put h o a rfl) (o + 1) b rfl) (o + 2) c rfl) (o + 3) d rfl) (o + 4) e rfl) (o + 5) f he
 ·have k0:Kept w w (fun k => k = g):=Kept.refl _ _
  have k1:=Kept.setCell k0 (p:=⟨g,o,none⟩) (.inl rfl) a
  have k2:=Kept.setCell k1 (p:=⟨g,o + 1,none⟩) (.inl rfl) b
  have k3:=Kept.setCell k2 (p:=⟨g,o + 2,none⟩) (.inl rfl) c
  have k4:=Kept.setCell k3 (p:=⟨g,o + 3,none⟩) (.inl rfl) d
  have k5:=Kept.setCell k4 (p:=⟨g,o + 4,none⟩) (.inl rfl) e
  exact Kept.setCell k5 (p:=⟨g,o + 5,none⟩) (.inl rfl) f
 ·exact ((((((Below.refl B w).setCell (p:=⟨g,o,none⟩) hB _).setCell (p:=⟨g,o + 1,none⟩) hB _).setCell (p:=⟨g,o + 2,none⟩) hB _).setCell (p:=⟨g,o + 3,none⟩) hB _).setCell (p:=⟨g,o + 4,none⟩) hB _).setCell (p:=⟨g,o + 5,none⟩) hB _
theorem there_of {w:World} {g:Nat} {t:TypeId} {cs:Array Value} (h:w.heap[g]? = some (.cells cs t (0,0))) (o n:Nat) (hn:o + n ≤ cs.size):w.there g o n:=fun j hj => by
 refine ⟨?_,blk_frozen h _⟩
 rw [blk_cell h,Array.getElem?_eq_getElem (by omega)]
 rfl
def upS (d:Sd):Sd:={ d with last:=⟨0,d.boot,d.end_.token,if d.end_.known then d.end_.boot else 0,if d.end_.known then d.end_.yours else 0,[]⟩ }
def upS0 (d:Sd):Sd:={ d with last:=⟨0,d.boot,d.end_.token,0,0,[]⟩ }
def upS1 (d:Sd):Sd:={ d with last:=⟨0,d.boot,d.end_.token,if d.end_.known then d.end_.boot else 0,0,[]⟩ }
theorem exec_store_mid {op:Oper} {a:Act} {w w1:World} (ty:TypeId) (x y:Operand) (ho:op.op = .store ty x y) (b o:Nat) (cells:Array Value) (hx:a.eval x = .pointer (some ⟨b,o,none⟩)) (hy:a.eval y = .agg cells)
  (hrun:(Instr.storeAt ty (.pointer (some ⟨b,o,none⟩)) (.agg cells)).run Try.prog w = .ok () w1):(execOp a.eval op).run Try.prog w = .ok .skip w1:=by
 unfold execOp
 simp only [ho,hx,hy,Sem.run_bind,hrun,Result.andThen_ok,Sem.run_pure]
end Go.Proofs.Ytnkkgofpifhoeaa.Pr
end
section
namespace Go.Proofs.Ytnkkgofpifhoeaa.Pr
open Go.RowKit Go.Proofs.Ytnkkgofpifhoeaa.Base Go.Proofs.Ytnkkgofpifhoeaa.Steps Go.Proofs.Ytnkkgofpifhoeaa.Lk Go.Proofs.Ytnkkgofpifhoeaa.Win Go.Proofs.YtnkkgofpifhoeaaW.PrintWords Go.Proofs.YtnkkgofpifhoeaaW.PrintLast
theorem drop_p {w:World} {B gp:Nat} {ge:Nat → Nat} {own:Nat → Nat → Prop} {X:Pr} {lv:Nat → Value} {wv:Value} (h:PAt w B gp ge own X lv wv) (i:Nat) (hi:i < X.way.length) (hlw:X.way.length ≤ 1024) (kind side:Int) (vb:Value) :
  Calls Try.prog 113 #[.pointer (some ⟨gp,0,none⟩),.agg #[.int .i64 kind,.int .i64 side,.int .i64 (i:Int),vb]] w fun e w' => e = .returned (.int .i64 0) ∧ Moves w B gp ge own { X with way:=X.way.eraseIdx i } (fun k => k = gp) w':=by
 have hba:Below w.heap.size w (w.alloc (.cells #[.int .i64 kind,.int .i64 side,.int .i64 (i:Int),vb] 72)):=(Below.refl _ _).alloc (Nat.le_refl _) _
 have hc2:(w.alloc (.cells #[.int .i64 kind,.int .i64 side,.int .i64 (i:Int),vb] 72)).cell? ⟨w.heap.size,2,none⟩ = some (.int .i64 (i:Int)):=(blk_cell (heap_alloc_new w _) 2).trans rfl
 have H:=Lib.hid (h.sub hba)
 have HB:=Lib.hid hba
 have H0:=Lib.hid h
 have HI:=Lib.hid hi
 have HL:=Lib.hid hlw
 clear h hba hi hlw
 go_enter Try.func113,Try.ntmps113
 go_wp2_with (go_at_call 128; (have hc:=out_p H.out i HI.out HL.out); (with_reducible refine hc.mono ?_); clear hc; rintro e w3 ⟨b,rfl,_,hM⟩; (have HM:=Lib.hid hM); clear hM)
 all_goals (go_ret; refine ⟨rfl,?_⟩)
 exact Moves.then_ (Kept.of_below HB.out _) (HB.out.mono H0.out.hB) (Grew.refl _ _) HM.out (fun k hk => .inl hk)
def shutS (d:Sd):Sd:=if d.end_.phase = 2 then noteF (endF d (shut_ d.end_)) 2 [] else endF d (shut_ d.end_)
theorem nil_C (w:World):(Kd.int .u8).C w none ([]:List Int).length []:=⟨rfl,by decide,fun h => absurd h (by decide)⟩
set_option maxRecDepth 100000 in
set_option maxHeartbeats 2000000 in
theorem shut_no_0 {w:World} {B gp:Nat} {ge:Nat → Nat} {own:Nat → Nat → Prop} {X:Pr} {lv:Nat → Value} {wv:Value} (h:PAt w B gp ge own X lv wv) (kind i:Int) (vb:Value) (hll:(X.sd 0).log.length ≤ 1000000) (hp:¬ (X.sd 0).end_.phase = 2) :
  Calls Try.prog 108 #[.pointer (some ⟨gp,0,none⟩),.agg #[.int .i64 kind,.int .i64 0,.int .i64 i,vb]] w fun e w' => e = .returned (.int .i64 0) ∧ Moves w B gp ge own (X.set 0 (endF (X.sd 0) (shut_ (X.sd 0).end_))) (fun k => k = gp ∨ own 1 k ∨ own 3 k) w':=by
 have hba:Below w.heap.size w (w.alloc (.cells #[.int .i64 kind,.int .i64 0,.int .i64 i,vb] 72)):=(Below.refl _ _).alloc (Nat.le_refl _) _
 have hc1:(w.alloc (.cells #[.int .i64 kind,.int .i64 0,.int .i64 i,vb] 72)).cell? ⟨w.heap.size,1,none⟩ = some (.int .i64 0):=(blk_cell (heap_alloc_new w _) 1).trans rfl
 have hc2:(w.alloc (.cells #[.int .i64 kind,.int .i64 0,.int .i64 i,vb] 72)).cell? ⟨gp,0,none⟩ = some (.pointer (some ⟨ge 0,0,none⟩)):=(blk_cell (h.sub hba).blk 0).trans rfl
 have H:=Lib.hid h
 have HB:=Lib.hid hba
 have HLL:=Lib.hid hll
 have hdp:decide ((X.sd 0).end_.phase = 2) = false:=by simp [hp]
 have HDP:=Lib.hid hdp
 clear h hba hll hp hdp
 go_enter Try.func108,Try.ntmps108
 go_wp2_with fail
 go_quiet (fail)
 rename Nat => nq1
 have hb1:=HB.out.trans (pw_below_drewN (Below.refl _ _) nq1:Below w.heap.size (w.alloc (.cells #[.int .i64 kind,.int .i64 0,.int .i64 i,vb] 72)) _)
 have HB2:=Lib.hid hb1
 clear hb1
 go_wp2_with (first | (go_at_call 78; (have hc:=shut_end ((H.out.sub HB2.out).e 0 (by decide))); rw [HDP.out] at hc; (with_reducible refine hc.mono ?_); clear hc; rintro e w3 ⟨rfl,ht⟩; (have HT:=Lib.hid ((H.out.sub HB2.out).turn (s:=0) (by decide) ht)); (have HKT:=Lib.hid (((Kept.of_below HB2.out _).then_ ht.2.1 (fun k hk => .inl (.inr (.inl hk)))):Kept w w3 (fun k => k = gp ∨ own 1 k ∨ own 3 k))); (have HBT:=Lib.hid ((HB2.out.mono H.out.hB).trans ht.2.2)); clear ht) | (go_at_call 127; (have hc9:Calls Try.prog 127 #[.pointer (some ⟨gp,0,none⟩),.int .i64 2,.slice none 0 0] w3 _:=note_0 HT.out 2 [] none 0 (nil_C w3) (by decide) (by rw [Pr.set_eq]; exact HLL.out)); (with_reducible refine hc9.mono ?_); clear hc9; rintro e w4 ⟨rfl,hM⟩; (have HM:=Lib.hid hM); clear hM))
 all_goals (go_ret; exact ⟨rfl,_,lv,wv,HT.out,Grew.grow _ HB2.out.size,HKT.out,HBT.out⟩)
set_option maxRecDepth 100000 in
set_option maxHeartbeats 2000000 in
theorem shut_up_0 {w:World} {B gp:Nat} {ge:Nat → Nat} {own:Nat → Nat → Prop} {X:Pr} {lv:Nat → Value} {wv:Value} (h:PAt w B gp ge own X lv wv) (kind i:Int) (vb:Value) (hll:(X.sd 0).log.length ≤ 1000000) (hp:(X.sd 0).end_.phase = 2) :
  Calls Try.prog 108 #[.pointer (some ⟨gp,0,none⟩),.agg #[.int .i64 kind,.int .i64 0,.int .i64 i,vb]] w fun e w' => e = .returned (.int .i64 0) ∧ Moves w B gp ge own (X.set 0 (noteF (endF (X.sd 0) (shut_ (X.sd 0).end_)) 2 [])) (fun k => k = gp ∨ own 1 k ∨ own 3 k) w':=by
 have hba:Below w.heap.size w (w.alloc (.cells #[.int .i64 kind,.int .i64 0,.int .i64 i,vb] 72)):=(Below.refl _ _).alloc (Nat.le_refl _) _
 have hc1:(w.alloc (.cells #[.int .i64 kind,.int .i64 0,.int .i64 i,vb] 72)).cell? ⟨w.heap.size,1,none⟩ = some (.int .i64 0):=(blk_cell (heap_alloc_new w _) 1).trans rfl
 have hc2:(w.alloc (.cells #[.int .i64 kind,.int .i64 0,.int .i64 i,vb] 72)).cell? ⟨gp,0,none⟩ = some (.pointer (some ⟨ge 0,0,none⟩)):=(blk_cell (h.sub hba).blk 0).trans rfl
 have H:=Lib.hid h
 have HB:=Lib.hid hba
 have HLL:=Lib.hid hll
 have hdp:decide ((X.sd 0).end_.phase = 2) = true:=by simp [hp]
 have HDP:=Lib.hid hdp
 clear h hba hll hp hdp
 go_enter Try.func108,Try.ntmps108
 go_wp2_with fail
 go_quiet (fail)
 rename Nat => nq1
 have hb1:=HB.out.trans (pw_below_drewN (Below.refl _ _) nq1:Below w.heap.size (w.alloc (.cells #[.int .i64 kind,.int .i64 0,.int .i64 i,vb] 72)) _)
 have HB2:=Lib.hid hb1
 clear hb1
 go_wp2_with (first | (go_at_call 78; (have hc:=shut_end ((H.out.sub HB2.out).e 0 (by decide))); rw [HDP.out] at hc; (with_reducible refine hc.mono ?_); clear hc; rintro e w3 ⟨rfl,ht⟩; (have HT:=Lib.hid ((H.out.sub HB2.out).turn (s:=0) (by decide) ht)); (have HKT:=Lib.hid (((Kept.of_below HB2.out _).then_ ht.2.1 (fun k hk => .inl (.inr (.inl hk)))):Kept w w3 (fun k => k = gp ∨ own 1 k ∨ own 3 k))); (have HBT:=Lib.hid ((HB2.out.mono H.out.hB).trans ht.2.2)); clear ht) | (go_at_call 127; (have hc9:Calls Try.prog 127 #[.pointer (some ⟨gp,0,none⟩),.int .i64 2,.slice none 0 0] w3 _:=note_0 HT.out 2 [] none 0 (nil_C w3) (by decide) (by rw [Pr.set_eq]; exact HLL.out)); (with_reducible refine hc9.mono ?_); clear hc9; rintro e w4 ⟨rfl,hM⟩; (have HM:=Lib.hid hM); clear hM))
 all_goals (go_ret; refine ⟨rfl,?_⟩)
 have hM:=HM.out
 rw [Pr.set_set,Pr.set_eq] at hM
 exact Moves.then_ HKT.out HBT.out (Grew.grow _ HB2.out.size) hM (fun k hk => hk.elim (fun x => .inl (.inl x)) (fun x => x.elim (fun y => .inl (.inr (.inr y))) (fun y => .inr (by have:=HB2.out.size; omega))))
set_option maxRecDepth 100000 in
set_option maxHeartbeats 2000000 in
theorem shut_no_1 {w:World} {B gp:Nat} {ge:Nat → Nat} {own:Nat → Nat → Prop} {X:Pr} {lv:Nat → Value} {wv:Value} (h:PAt w B gp ge own X lv wv) (kind i:Int) (vb:Value) (hll:(X.sd 1).log.length ≤ 1000000) (hp:¬ (X.sd 1).end_.phase = 2) :
  Calls Try.prog 108 #[.pointer (some ⟨gp,0,none⟩),.agg #[.int .i64 kind,.int .i64 1,.int .i64 i,vb]] w fun e w' => e = .returned (.int .i64 0) ∧ Moves w B gp ge own (X.set 1 (endF (X.sd 1) (shut_ (X.sd 1).end_))) (fun k => k = gp ∨ own 2 k ∨ own 4 k) w':=by
 have hba:Below w.heap.size w (w.alloc (.cells #[.int .i64 kind,.int .i64 1,.int .i64 i,vb] 72)):=(Below.refl _ _).alloc (Nat.le_refl _) _
 have hc1:(w.alloc (.cells #[.int .i64 kind,.int .i64 1,.int .i64 i,vb] 72)).cell? ⟨w.heap.size,1,none⟩ = some (.int .i64 1):=(blk_cell (heap_alloc_new w _) 1).trans rfl
 have hc2:(w.alloc (.cells #[.int .i64 kind,.int .i64 1,.int .i64 i,vb] 72)).cell? ⟨gp,9,none⟩ = some (.pointer (some ⟨ge 1,0,none⟩)):=(blk_cell (h.sub hba).blk 9).trans rfl
 have H:=Lib.hid h
 have HB:=Lib.hid hba
 have HLL:=Lib.hid hll
 have hdp:decide ((X.sd 1).end_.phase = 2) = false:=by simp [hp]
 have HDP:=Lib.hid hdp
 clear h hba hll hp hdp
 go_enter Try.func108,Try.ntmps108
 go_wp2_with fail
 go_quiet (fail)
 rename Nat => nq1
 have hb1:=HB.out.trans (pw_below_drewN (Below.refl _ _) nq1:Below w.heap.size (w.alloc (.cells #[.int .i64 kind,.int .i64 1,.int .i64 i,vb] 72)) _)
 have HB2:=Lib.hid hb1
 clear hb1
 go_wp2_with (first | (go_at_call 78; (have hc:=shut_end ((H.out.sub HB2.out).e 1 (by decide))); rw [HDP.out] at hc; (with_reducible refine hc.mono ?_); clear hc; rintro e w3 ⟨rfl,ht⟩; (have HT:=Lib.hid ((H.out.sub HB2.out).turn (s:=1) (by decide) ht)); (have HKT:=Lib.hid (((Kept.of_below HB2.out _).then_ ht.2.1 (fun k hk => .inl (.inr (.inl hk)))):Kept w w3 (fun k => k = gp ∨ own 2 k ∨ own 4 k))); (have HBT:=Lib.hid ((HB2.out.mono H.out.hB).trans ht.2.2)); clear ht) | (go_at_call 127; (have hc9:Calls Try.prog 127 #[.pointer (some ⟨gp,9,none⟩),.int .i64 2,.slice none 0 0] w3 _:=note_1 HT.out 2 [] none 0 (nil_C w3) (by decide) (by rw [Pr.set_eq]; exact HLL.out)); (with_reducible refine hc9.mono ?_); clear hc9; rintro e w4 ⟨rfl,hM⟩; (have HM:=Lib.hid hM); clear hM))
 all_goals (go_ret; exact ⟨rfl,_,lv,wv,HT.out,Grew.grow _ HB2.out.size,HKT.out,HBT.out⟩)
set_option maxRecDepth 100000 in
set_option maxHeartbeats 2000000 in
theorem shut_up_1 {w:World} {B gp:Nat} {ge:Nat → Nat} {own:Nat → Nat → Prop} {X:Pr} {lv:Nat → Value} {wv:Value} (h:PAt w B gp ge own X lv wv) (kind i:Int) (vb:Value) (hll:(X.sd 1).log.length ≤ 1000000) (hp:(X.sd 1).end_.phase = 2) :
  Calls Try.prog 108 #[.pointer (some ⟨gp,0,none⟩),.agg #[.int .i64 kind,.int .i64 1,.int .i64 i,vb]] w fun e w' => e = .returned (.int .i64 0) ∧ Moves w B gp ge own (X.set 1 (noteF (endF (X.sd 1) (shut_ (X.sd 1).end_)) 2 [])) (fun k => k = gp ∨ own 2 k ∨ own 4 k) w':=by
 have hba:Below w.heap.size w (w.alloc (.cells #[.int .i64 kind,.int .i64 1,.int .i64 i,vb] 72)):=(Below.refl _ _).alloc (Nat.le_refl _) _
 have hc1:(w.alloc (.cells #[.int .i64 kind,.int .i64 1,.int .i64 i,vb] 72)).cell? ⟨w.heap.size,1,none⟩ = some (.int .i64 1):=(blk_cell (heap_alloc_new w _) 1).trans rfl
 have hc2:(w.alloc (.cells #[.int .i64 kind,.int .i64 1,.int .i64 i,vb] 72)).cell? ⟨gp,9,none⟩ = some (.pointer (some ⟨ge 1,0,none⟩)):=(blk_cell (h.sub hba).blk 9).trans rfl
 have H:=Lib.hid h
 have HB:=Lib.hid hba
 have HLL:=Lib.hid hll
 have hdp:decide ((X.sd 1).end_.phase = 2) = true:=by simp [hp]
 have HDP:=Lib.hid hdp
 clear h hba hll hp hdp
 go_enter Try.func108,Try.ntmps108
 go_wp2_with fail
 go_quiet (fail)
 rename Nat => nq1
 have hb1:=HB.out.trans (pw_below_drewN (Below.refl _ _) nq1:Below w.heap.size (w.alloc (.cells #[.int .i64 kind,.int .i64 1,.int .i64 i,vb] 72)) _)
 have HB2:=Lib.hid hb1
 clear hb1
 go_wp2_with (first | (go_at_call 78; (have hc:=shut_end ((H.out.sub HB2.out).e 1 (by decide))); rw [HDP.out] at hc; (with_reducible refine hc.mono ?_); clear hc; rintro e w3 ⟨rfl,ht⟩; (have HT:=Lib.hid ((H.out.sub HB2.out).turn (s:=1) (by decide) ht)); (have HKT:=Lib.hid (((Kept.of_below HB2.out _).then_ ht.2.1 (fun k hk => .inl (.inr (.inl hk)))):Kept w w3 (fun k => k = gp ∨ own 2 k ∨ own 4 k))); (have HBT:=Lib.hid ((HB2.out.mono H.out.hB).trans ht.2.2)); clear ht) | (go_at_call 127; (have hc9:Calls Try.prog 127 #[.pointer (some ⟨gp,9,none⟩),.int .i64 2,.slice none 0 0] w3 _:=note_1 HT.out 2 [] none 0 (nil_C w3) (by decide) (by rw [Pr.set_eq]; exact HLL.out)); (with_reducible refine hc9.mono ?_); clear hc9; rintro e w4 ⟨rfl,hM⟩; (have HM:=Lib.hid hM); clear hM))
 all_goals (go_ret; refine ⟨rfl,?_⟩)
 have hM:=HM.out
 rw [Pr.set_set,Pr.set_eq] at hM
 exact Moves.then_ HKT.out HBT.out (Grew.grow _ HB2.out.size) hM (fun k hk => hk.elim (fun x => .inl (.inl x)) (fun x => x.elim (fun y => .inl (.inr (.inr y))) (fun y => .inr (by have:=HB2.out.size; omega))))
end Go.Proofs.Ytnkkgofpifhoeaa.Pr
end
section
namespace Go.Proofs.Ytnkkgofpifhoeaa.Lk
open Go.RowKit Go.Proofs.Ytnkkgofpifhoeaa.Base Go.Proofs.Ytnkkgofpifhoeaa.Steps Go.Proofs.YtnkkgofpifhoeaaW.PrintWords Go.Proofs.YtnkkgofpifhoeaaW.PrintLast
theorem end_new {w:World} {B g:Nat} {L:Lk} (h:At w B (fun _ => False) (fun _ => False) g L (.slice none 0 0) (.slice none 0 0)):End w B (fun k => k = g) g L :=
 ⟨_,_,_,_,h,fun k hk => hk.elim False.elim (fun x => x.elim False.elim id)⟩
end Go.Proofs.Ytnkkgofpifhoeaa.Lk
end
section
namespace Go.Proofs.Ytnkkgofpifhoeaa.Pr
open Go.RowKit Go.Proofs.Ytnkkgofpifhoeaa.Base Go.Proofs.Ytnkkgofpifhoeaa.Steps Go.Proofs.Ytnkkgofpifhoeaa.Lk Go.Proofs.Ytnkkgofpifhoeaa.Win Go.Proofs.YtnkkgofpifhoeaaW.PrintWords Go.Proofs.YtnkkgofpifhoeaaW.PrintLast
def newSd:Sd:=⟨newL 1,1,[],⟨0,0,0,0,0,[]⟩⟩
def newX:Pr:=⟨fun _ => newSd,[]⟩
set_option maxRecDepth 100000 in
set_option maxHeartbeats 2000000 in
theorem new_p (w:World) (B:Nat) (hB:B ≤ w.heap.size):Calls Try.prog 44 #[] w fun e w' => ∃ ge own,e = .returned (.pointer (some ⟨w.heap.size,0,none⟩)) ∧ PAt w' B w.heap.size ge own newX (fun _ => .slice none 0 0) (.slice none 0 0) ∧ (∀ i k,own i k → w.heap.size ≤ k) ∧ Below B w w':=by
 have HB:=Lib.hid hB
 have HZ:=Lib.hid (heap_alloc_new w (.cells #[.pointer none,.int .u32 0,.slice none 0 0,.int .i64 0,.int .u32 0,.int .u32 0,.int .u32 0,.int .u32 0,.slice none 0 0,.pointer none,.int .u32 0,.slice none 0 0,.int .i64 0,.int .u32 0,.int .u32 0,.int .u32 0,.int .u32 0,.slice none 0 0,.slice none 0 0] 143))
 have HZL:=Lib.hid (show Below w.heap.size w (w.alloc (.cells #[.pointer none,.int .u32 0,.slice none 0 0,.int .i64 0,.int .u32 0,.int .u32 0,.int .u32 0,.int .u32 0,.slice none 0 0,.pointer none,.int .u32 0,.slice none 0 0,.int .i64 0,.int .u32 0,.int .u32 0,.int .u32 0,.int .u32 0,.slice none 0 0,.slice none 0 0] 143)) from (Below.refl _ _).alloc (Nat.le_refl _) _)
 clear hB
 go_enter Try.func44,Try.ntmps44
 go_wp2_with fail
 refine wp_loop_rounds 3 ?_
 rw [rounds_succ]
 go_wp2_with (first | ((with_reducible refine gate_ (.store 24 (.tmp 13) (.const (.int .u32 1))) rfl ?_); (refine store_F (fun wz => wz.heap[w.heap.size]? = some (.cells #[.pointer none,.int .u32 1,.slice none 0 0,.int .i64 0,.int .u32 0,.int .u32 0,.int .u32 0,.int .u32 0,.slice none 0 0,.pointer none,.int .u32 0,.slice none 0 0,.int .i64 0,.int .u32 0,.int .u32 0,.int .u32 0,.int .u32 0,.slice none 0 0,.slice none 0 0] 143 (0,0)) ∧ Below w.heap.size w wz ∧ Kept (w.alloc (.cells #[.pointer none,.int .u32 0,.slice none 0 0,.int .i64 0,.int .u32 0,.int .u32 0,.int .u32 0,.int .u32 0,.slice none 0 0,.pointer none,.int .u32 0,.slice none 0 0,.int .i64 0,.int .u32 0,.int .u32 0,.int .u32 0,.int .u32 0,.slice none 0 0,.slice none 0 0] 143)) wz (fun k => k = w.heap.size)) rfl rfl ⟨_,(by have hz1:World.cell? (w.alloc (.cells #[.pointer none,.int .u32 0,.slice none 0 0,.int .i64 0,.int .u32 0,.int .u32 0,.int .u32 0,.int .u32 0,.slice none 0 0,.pointer none,.int .u32 0,.slice none 0 0,.int .i64 0,.int .u32 0,.int .u32 0,.int .u32 0,.int .u32 0,.slice none 0 0,.slice none 0 0] 143)) ⟨w.heap.size,1,none⟩ = some _:=(blk_cell HZ.out 1).trans rfl; have hz2:=blk_frozen HZ.out 1; first | (go_simp; done) | (go_simp; rfl)),blk_put HZ.out 1 _ rfl,HZL.out.setCell (p:=⟨w.heap.size,1,none⟩) (Nat.le_refl _) _,Kept.setCell (S:=fun k => k = w.heap.size) (Kept.refl _ _) (p:=⟨w.heap.size,1,none⟩) (.inl rfl) _⟩ (fun wb0 hF => ?_)); (have HS0:=Lib.hid hF); (clear hF)))
 have hSS:wb0.drew.heap[w.heap.size]? = some (.cells #[.pointer none,.int .u32 1,.slice none 0 0,.int .i64 0,.int .u32 0,.int .u32 0,.int .u32 0,.int .u32 0,.slice none 0 0,.pointer none,.int .u32 0,.slice none 0 0,.int .i64 0,.int .u32 0,.int .u32 0,.int .u32 0,.int .u32 0,.slice none 0 0,.slice none 0 0] 143 (0,0)):=HS0.out.1
 have hbd:=bl_drew HS0.out.2.1
 have hkp:Kept (w.alloc (.cells #[.pointer none,.int .u32 0,.slice none 0 0,.int .i64 0,.int .u32 0,.int .u32 0,.int .u32 0,.int .u32 0,.slice none 0 0,.pointer none,.int .u32 0,.slice none 0 0,.int .i64 0,.int .u32 0,.int .u32 0,.int .u32 0,.int .u32 0,.slice none 0 0,.slice none 0 0] 143)) wb0.drew (fun k => k = w.heap.size):=HS0.out.2.2
 refine start_ (n:=11) (S:=fun w' => w'.heap[w.heap.size]? = some (.cells #[.pointer none,.int .u32 1,.slice none 0 0,.int .i64 0,.int .u32 0,.int .u32 0,.int .u32 0,.int .u32 0,.slice none 0 0,.pointer none,.int .u32 0,.slice none 0 0,.int .i64 0,.int .u32 0,.int .u32 0,.int .u32 0,.int .u32 0,.slice none 0 0,.slice none 0 0] 143 (0,0))) (ds:=[10]) M0W (by kernel_rfl) rfl rfl (hSS) (fun hHeld => ?_)
 generalize wb0.drew = wd0 at hbd hkp hHeld ⊢
 have HBD0:=Lib.hid hbd
 have HKP0:=Lib.hid hkp
 clear hbd hkp
 refine pure_ (i:=0) (N:=some 15) (v:=?_) (a':=?_) M0Y rfl rfl (by kernel_rfl) (fun _ _ _ h => h) (Or.inl ⟨by rfl,?_⟩) ?_ ?_
 rotate_left
 ·intro w'
  go_simp
  with_reducible rfl
 rotate_left
 ·simp only [Act.put,sA,sZ,sS]
  rfl
 refine pure_ (i:=1) (N:=some 16) (v:=?_) (a':=?_) M0Z rfl rfl (by kernel_rfl) (fun _ _ _ h => h) (Or.inl ⟨by rfl,?_⟩) ?_ ?_
 rotate_left
 ·intro w'
  go_simp
  with_reducible rfl
 rotate_left
 ·simp only [Act.put,sA,sZ,sS]
  rfl
 refine pure_ (i:=6) (N:=some 20) (v:=?_) (a':=?_) M2H rfl rfl (by kernel_rfl) (fun _ _ _ h => h) (Or.inl ⟨by rfl,?_⟩) ?_ ?_
 rotate_left
 ·intro w'
  go_simp
  with_reducible rfl
 rotate_left
 ·simp only [Act.put,sA,sZ,sS]
  rfl
 refine pure_ (i:=7) (N:=some 21) (v:=?_) (a':=?_) M2I rfl rfl (by kernel_rfl) (fun _ _ _ h => h) (Or.inl ⟨by rfl,?_⟩) ?_ ?_
 rotate_left
 ·intro w'
  go_simp
  with_reducible rfl
 rotate_left
 ·simp only [Act.put,sA,sZ,sS]
  rfl
 refine one_ (i:=2) (N:=some 17) M2J rfl rfl (by kernel_rfl) (by decide) (fun K hK => ?_)
 refine goes_ Try.func26 (by kernel_rfl) rfl #[.int .u32 1] (by rfl) rfl rfl (by (try simp only [List.map_toArray,List.map_cons,List.map_nil]); first | done | rfl) ?_
 refine (new_of 1 (by decide) wd0 B (Nat.le_trans HB.out HBD0.out.size)).mono ?_
 rintro e wn0 ⟨rfl,hat,hbn⟩
 refine ⟨_,rfl,?_⟩
 have hS3:wn0.heap[w.heap.size]? = some (.cells #[.pointer none,.int .u32 1,.slice none 0 0,.int .i64 0,.int .u32 0,.int .u32 0,.int .u32 0,.int .u32 0,.slice none 0 0,.pointer none,.int .u32 0,.slice none 0 0,.int .i64 0,.int .u32 0,.int .u32 0,.int .u32 0,.int .u32 0,.slice none 0 0,.slice none 0 0] 143 (0,0)):=(hbn.block _ (blk_lt hHeld)).trans hHeld
 have HAT0:=Lib.hid hat
 have HBN0:=Lib.hid hbn
 have HS30:=Lib.hid hS3
 have hgx:=blk_lt hHeld
 have HGX0:=Lib.hid hgx
 clear hat hbn hHeld hgx
 generalize hge:wd0.heap.size = g0 at *
 have HGE0:=Lib.hid hge
 clear hge
 refine hK.out _ _ hS3 (fun hHeld => ?_)
 clear hK K hS3
 refine norm_ (a':=?_) ?_ ?_
 rotate_left
 ·show Act.put _ (some 17) _ = _
  simp only [Act.put,sA,sZ,sS]
  rfl
 refine pure_ (i:=3) (N:=some 14) (v:=?_) (a':=?_) M2K rfl rfl (by kernel_rfl) (fun _ _ _ h => h) (Or.inl ⟨by rfl,?_⟩) ?_ ?_
 rotate_left
 ·intro w'
  go_simp
  with_reducible rfl
 rotate_left
 ·simp only [Act.put,sA,sZ,sS]
  rfl
 refine pure_ (i:=4) (N:=some 18) (v:=?_) (a':=?_) M2L rfl rfl (by kernel_rfl) (fun _ _ _ h => h) (Or.inl ⟨by rfl,?_⟩) ?_ ?_
 rotate_left
 ·intro w'
  go_simp
  rfl
 rotate_left
 ·simp only [Act.put,sA,sZ,sS]
  rfl
 refine pure_ (i:=5) (N:=some 19) (v:=?_) (a':=?_) M13 rfl rfl (by kernel_rfl) (fun _ _ _ h => h) (Or.inl ⟨by rfl,?_⟩) ?_ ?_
 rotate_left
 ·intro w'
  go_simp
  rfl
 rotate_left
 ·simp only [Act.put,sA,sZ,sS]
  rfl
 refine pure_ (i:=8) (N:=some 22) (v:=?_) (a':=?_) M14 rfl rfl (by kernel_rfl) (fun _ _ _ h => h) (Or.inl ⟨by rfl,?_⟩) ?_ ?_
 rotate_left
 ·intro w'
  go_simp
  rfl
 rotate_left
 ·simp only [Act.put,sA,sZ,sS]
  rfl
 refine pure_ (i:=9) (N:=some 23) (v:=?_) (a':=?_) M15 rfl rfl (by kernel_rfl) (fun _ _ _ h => h) (Or.inl ⟨by rfl,?_⟩) ?_ ?_
 rotate_left
 ·intro w'
  go_simp
  rfl
 rotate_left
 ·simp only [Act.put,sA,sZ,sS]
  rfl
 refine last_ (i:=10) (N:=none) M16 rfl rfl (by kernel_rfl) (by decide) (fun K hK => ?_)
 have hz1:wn0.cell? ⟨w.heap.size,0,none⟩ = some _:=(blk_cell HS30.out 0).trans rfl
 have hz2:=blk_frozen HS30.out 0
 refine skip_F (fun wz => wz.heap[w.heap.size]? = some (.cells #[.pointer (some ⟨g0,0,none⟩),.int .u32 1,.slice none 0 0,.int .i64 0,.int .u32 0,.int .u32 0,.int .u32 0,.int .u32 0,.slice none 0 0,.pointer none,.int .u32 0,.slice none 0 0,.int .i64 0,.int .u32 0,.int .u32 0,.int .u32 0,.int .u32 0,.slice none 0 0,.slice none 0 0] 143 (0,0)) ∧ Kept wn0 wz (fun k => k = w.heap.size) ∧ wz.heap.size = wn0.heap.size ∧ Below w.heap.size w wz) (by rfl) rfl ⟨_,by first | (go_simp; done) | (go_simp; rfl),blk_put HS30.out 0 _ rfl,Kept.setCell (S:=fun k => k = w.heap.size) (Kept.refl _ _) (p:=⟨w.heap.size,0,none⟩) (.inl rfl) _,by simp [World.setCell],(HBD0.out.trans (HBN0.out.mono (by have:=HGX0.out; have:=HGE0.out; omega))).setCell (p:=⟨w.heap.size,0,none⟩) (Nat.le_refl _) _⟩ (fun we0 hF => ?_)
 have HF0:=Lib.hid hF
 have HE0:=Lib.hid hF.1
 have HL0:=Lib.hid hF.2.2.2
 clear hF hz1 hz2 hHeld
 refine hK.out _ _ ?_
 clear hK K
 refine done_ (by kernel_rfl) ?_
 go_wp2_with fail
 rw [rounds_succ]
 go_wp2_with (first | ((with_reducible refine gate_ (.store 24 (.tmp 13) (.const (.int .u32 1))) rfl ?_); (refine store_F (fun wz => wz.heap[w.heap.size]? = some (.cells #[.pointer (some ⟨g0,0,none⟩),.int .u32 1,.slice none 0 0,.int .i64 0,.int .u32 0,.int .u32 0,.int .u32 0,.int .u32 0,.slice none 0 0,.pointer none,.int .u32 1,.slice none 0 0,.int .i64 0,.int .u32 0,.int .u32 0,.int .u32 0,.int .u32 0,.slice none 0 0,.slice none 0 0] 143 (0,0)) ∧ Below w.heap.size w wz ∧ Kept we0 wz (fun k => k = w.heap.size)) rfl rfl ⟨_,(by have hz1:World.cell? we0 ⟨w.heap.size,10,none⟩ = some _:=(blk_cell HE0.out 10).trans rfl; have hz2:=blk_frozen HE0.out 10; first | (go_simp; done) | (go_simp; rfl)),blk_put HE0.out 10 _ rfl,HL0.out.setCell (p:=⟨w.heap.size,10,none⟩) (Nat.le_refl _) _,Kept.setCell (S:=fun k => k = w.heap.size) (Kept.refl _ _) (p:=⟨w.heap.size,10,none⟩) (.inl rfl) _⟩ (fun wb1 hF => ?_)); (have HS1:=Lib.hid hF); (clear hF)))
 have hSS:wb1.drew.heap[w.heap.size]? = some (.cells #[.pointer (some ⟨g0,0,none⟩),.int .u32 1,.slice none 0 0,.int .i64 0,.int .u32 0,.int .u32 0,.int .u32 0,.int .u32 0,.slice none 0 0,.pointer none,.int .u32 1,.slice none 0 0,.int .i64 0,.int .u32 0,.int .u32 0,.int .u32 0,.int .u32 0,.slice none 0 0,.slice none 0 0] 143 (0,0)):=HS1.out.1
 have hbd:=bl_drew HS1.out.2.1
 have hkp:Kept we0 wb1.drew (fun k => k = w.heap.size):=HS1.out.2.2
 refine start_ (n:=11) (S:=fun w' => w'.heap[w.heap.size]? = some (.cells #[.pointer (some ⟨g0,0,none⟩),.int .u32 1,.slice none 0 0,.int .i64 0,.int .u32 0,.int .u32 0,.int .u32 0,.int .u32 0,.slice none 0 0,.pointer none,.int .u32 1,.slice none 0 0,.int .i64 0,.int .u32 0,.int .u32 0,.int .u32 0,.int .u32 0,.slice none 0 0,.slice none 0 0] 143 (0,0))) (ds:=[10]) M0W (by kernel_rfl) rfl rfl (hSS) (fun hHeld => ?_)
 generalize wb1.drew = wd1 at hbd hkp hHeld ⊢
 have HBD1:=Lib.hid hbd
 have HKP1:=Lib.hid hkp
 clear hbd hkp
 refine pure_ (i:=0) (N:=some 15) (v:=?_) (a':=?_) M0Y rfl rfl (by kernel_rfl) (fun _ _ _ h => h) (Or.inl ⟨by rfl,?_⟩) ?_ ?_
 rotate_left
 ·intro w'
  go_simp
  with_reducible rfl
 rotate_left
 ·simp only [Act.put,sA,sZ,sS]
  rfl
 refine pure_ (i:=1) (N:=some 16) (v:=?_) (a':=?_) M0Z rfl rfl (by kernel_rfl) (fun _ _ _ h => h) (Or.inl ⟨by rfl,?_⟩) ?_ ?_
 rotate_left
 ·intro w'
  go_simp
  with_reducible rfl
 rotate_left
 ·simp only [Act.put,sA,sZ,sS]
  rfl
 refine pure_ (i:=6) (N:=some 20) (v:=?_) (a':=?_) M2H rfl rfl (by kernel_rfl) (fun _ _ _ h => h) (Or.inl ⟨by rfl,?_⟩) ?_ ?_
 rotate_left
 ·intro w'
  go_simp
  with_reducible rfl
 rotate_left
 ·simp only [Act.put,sA,sZ,sS]
  rfl
 refine pure_ (i:=7) (N:=some 21) (v:=?_) (a':=?_) M2I rfl rfl (by kernel_rfl) (fun _ _ _ h => h) (Or.inl ⟨by rfl,?_⟩) ?_ ?_
 rotate_left
 ·intro w'
  go_simp
  with_reducible rfl
 rotate_left
 ·simp only [Act.put,sA,sZ,sS]
  rfl
 refine one_ (i:=2) (N:=some 17) M2J rfl rfl (by kernel_rfl) (by decide) (fun K hK => ?_)
 refine goes_ Try.func26 (by kernel_rfl) rfl #[.int .u32 1] (by rfl) rfl rfl (by (try simp only [List.map_toArray,List.map_cons,List.map_nil]); first | done | rfl) ?_
 refine (new_of 1 (by decide) wd1 B (Nat.le_trans HB.out HBD1.out.size)).mono ?_
 rintro e wn1 ⟨rfl,hat,hbn⟩
 refine ⟨_,rfl,?_⟩
 have hS3:wn1.heap[w.heap.size]? = some (.cells #[.pointer (some ⟨g0,0,none⟩),.int .u32 1,.slice none 0 0,.int .i64 0,.int .u32 0,.int .u32 0,.int .u32 0,.int .u32 0,.slice none 0 0,.pointer none,.int .u32 1,.slice none 0 0,.int .i64 0,.int .u32 0,.int .u32 0,.int .u32 0,.int .u32 0,.slice none 0 0,.slice none 0 0] 143 (0,0)):=(hbn.block _ (blk_lt hHeld)).trans hHeld
 have HAT1:=Lib.hid hat
 have HBN1:=Lib.hid hbn
 have HS31:=Lib.hid hS3
 have hgx:=blk_lt hHeld
 have HGX1:=Lib.hid hgx
 clear hat hbn hHeld hgx
 generalize hge:wd1.heap.size = g1 at *
 have HGE1:=Lib.hid hge
 clear hge
 refine hK.out _ _ hS3 (fun hHeld => ?_)
 clear hK K hS3
 refine norm_ (a':=?_) ?_ ?_
 rotate_left
 ·show Act.put _ (some 17) _ = _
  simp only [Act.put,sA,sZ,sS]
  rfl
 refine pure_ (i:=3) (N:=some 14) (v:=?_) (a':=?_) M2K rfl rfl (by kernel_rfl) (fun _ _ _ h => h) (Or.inl ⟨by rfl,?_⟩) ?_ ?_
 rotate_left
 ·intro w'
  go_simp
  with_reducible rfl
 rotate_left
 ·simp only [Act.put,sA,sZ,sS]
  rfl
 refine pure_ (i:=4) (N:=some 18) (v:=?_) (a':=?_) M2L rfl rfl (by kernel_rfl) (fun _ _ _ h => h) (Or.inl ⟨by rfl,?_⟩) ?_ ?_
 rotate_left
 ·intro w'
  go_simp
  rfl
 rotate_left
 ·simp only [Act.put,sA,sZ,sS]
  rfl
 refine pure_ (i:=5) (N:=some 19) (v:=?_) (a':=?_) M13 rfl rfl (by kernel_rfl) (fun _ _ _ h => h) (Or.inl ⟨by rfl,?_⟩) ?_ ?_
 rotate_left
 ·intro w'
  go_simp
  rfl
 rotate_left
 ·simp only [Act.put,sA,sZ,sS]
  rfl
 refine pure_ (i:=8) (N:=some 22) (v:=?_) (a':=?_) M14 rfl rfl (by kernel_rfl) (fun _ _ _ h => h) (Or.inl ⟨by rfl,?_⟩) ?_ ?_
 rotate_left
 ·intro w'
  go_simp
  rfl
 rotate_left
 ·simp only [Act.put,sA,sZ,sS]
  rfl
 refine pure_ (i:=9) (N:=some 23) (v:=?_) (a':=?_) M15 rfl rfl (by kernel_rfl) (fun _ _ _ h => h) (Or.inl ⟨by rfl,?_⟩) ?_ ?_
 rotate_left
 ·intro w'
  go_simp
  rfl
 rotate_left
 ·simp only [Act.put,sA,sZ,sS]
  rfl
 refine last_ (i:=10) (N:=none) M16 rfl rfl (by kernel_rfl) (by decide) (fun K hK => ?_)
 have hz1:wn1.cell? ⟨w.heap.size,9,none⟩ = some _:=(blk_cell HS31.out 9).trans rfl
 have hz2:=blk_frozen HS31.out 9
 refine skip_F (fun wz => wz.heap[w.heap.size]? = some (.cells #[.pointer (some ⟨g0,0,none⟩),.int .u32 1,.slice none 0 0,.int .i64 0,.int .u32 0,.int .u32 0,.int .u32 0,.int .u32 0,.slice none 0 0,.pointer (some ⟨g1,0,none⟩),.int .u32 1,.slice none 0 0,.int .i64 0,.int .u32 0,.int .u32 0,.int .u32 0,.int .u32 0,.slice none 0 0,.slice none 0 0] 143 (0,0)) ∧ Kept wn1 wz (fun k => k = w.heap.size) ∧ wz.heap.size = wn1.heap.size ∧ Below w.heap.size w wz) (by rfl) rfl ⟨_,by first | (go_simp; done) | (go_simp; rfl),blk_put HS31.out 9 _ rfl,Kept.setCell (S:=fun k => k = w.heap.size) (Kept.refl _ _) (p:=⟨w.heap.size,9,none⟩) (.inl rfl) _,by simp [World.setCell],(HBD1.out.trans (HBN1.out.mono (by have:=HGX1.out; have:=HGE1.out; omega))).setCell (p:=⟨w.heap.size,9,none⟩) (Nat.le_refl _) _⟩ (fun we1 hF => ?_)
 have HF1:=Lib.hid hF
 have HE1:=Lib.hid hF.1
 have HL1:=Lib.hid hF.2.2.2
 clear hF hz1 hz2 hHeld
 refine hK.out _ _ ?_
 clear hK K
 refine done_ (by kernel_rfl) ?_
 go_wp2_with fail
 rw [rounds_succ]
 go_wp2_with fail
 have hlt0:=blk_lt HAT0.out.blk
 have hsz0:=HF0.out.2.2.1
 have hk01:=HKP1.out.1
 have hg01:g0 < g1:=by have:=HGE1.out; omega
 have hx0:=HGX0.out
 have hx1:=HGX1.out
 have hge1:=HGE1.out
 have hb1:Below wd1.heap.size wd1 wn1:=by have:=HBN1.out; rwa [← hge1] at this
 have hz1:=HF1.out.2.2.1
 have hl1:=blk_lt HAT1.out.blk
 have e0:Lk.End we1 B (fun k => k = g0) g0 (newL 1):=((((end_new HAT0.out).kept HF0.out.2.1 (fun k hk hx => by omega)).kept HKP1.out (fun k hk hx => by omega)).kept (Kept.of_below hb1 (fun _ => False)) (fun _ _ hf => hf)).kept HF1.out.2.1 (fun k hk hx => by omega)
 have e1:Lk.End we1 B (fun k => k = g1) g1 (newL 1):=(end_new HAT1.out).kept HF1.out.2.1 (fun k hk hx => by omega)
 go_ret
 refine ⟨fun t => if t = 0 then g0 else g1,fun j k => (j = 1 ∧ k = g0) ∨ (j = 2 ∧ k = g1),rfl,⟨HE1.out,HB.out,fun i hi => by omega,fun i j k hi hj => by omega,fun i k hi => by omega,fun s hs => ?_,fun s hs => Kd.R_nil _ _ _ _ _,Win.nil _ _ _ _ _⟩,fun i k hi => by omega,HL1.out.mono HB.out⟩
 have h0:s = 0 ∨ s = 1:=by omega
 rcases h0 with rfl | rfl
 ·exact e0.mono (fun k hk => .inl ⟨rfl,hk⟩)
 ·exact e1.mono (fun k hk => .inr ⟨rfl,hk⟩)
end Go.Proofs.Ytnkkgofpifhoeaa.Pr
end
section
namespace Go.Proofs.Ytnkkgofpifhoeaa.Pr
open Go.Proofs.Ytnkkgofpifhoeaa.Lk
structure Act where
 kind:Int
 side:Int
 i:Int
 body:List Int
def rebootS (d:Sd):Sd:=if d.boot = 4294967295 then d else { d with boot:=d.boot + 1,end_:=newL (d.boot + 1),log:=d.log ++ [⟨5,d.boot + 1,0,0,0,[]⟩] }
def takeS (d:Sd) (x:Lk × Tk):Sd :=
 if x.2.down = true then noteF (endF d x.1) 2 [] else if x.2.up = true then noteF (upS (endF d x.1)) 1 [] else if 0 < x.2.body.length then noteF (endF d x.1) 4 x.2.body else endF d x.1
def deliverX (X:Pr) (i:Nat):Pr :=
 ({ X with way:=X.way.eraseIdx i }:Pr).set (X.way.getD i nilF).dst.toNat (takeS (X.sd (X.way.getD i nilF).dst.toNat) (takeF (X.sd (X.way.getD i nilF).dst.toNat).end_ (X.way.getD i nilF).boot (X.way.getD i nilF).p))
def actX (X:Pr) (a:Act):Pr :=
 if a.kind = 1 then X.set a.side.toNat (endF (X.sd a.side.toNat) (openL (X.sd a.side.toNat).end_))
 else if a.kind = 2 then X.set a.side.toNat (shutS (X.sd a.side.toNat))
 else if a.kind = 3 then X.set a.side.toNat (sendS (X.sd a.side.toNat) a.body)
 else if a.kind = 4 then X.set a.side.toNat (endF (X.sd a.side.toNat) (tick_ (X.sd a.side.toNat).end_))
 else if a.kind = 5 then X.set a.side.toNat (rebootS (X.sd a.side.toNat))
 else if a.kind = 6 then deliverX X a.i.toNat
 else if a.kind = 7 then { X with way:=X.way.eraseIdx a.i.toNat }
 else putX X (X.way.getD a.i.toNat nilF)
def actE (X:Pr) (a:Act):Int :=
 if a.kind = 1 then openE (X.sd a.side.toNat).end_ else if a.kind = 3 then sendE (X.sd a.side.toNat).end_ a.body.length
 else if a.kind = 5 then (if (X.sd a.side.toNat).boot = 4294967295 then 2 else 0) else 0
def badA (X:Pr) (a:Act):Int:=if a.kind < 1 ∨ 8 < a.kind then 121 else if a.kind < 6 ∧ a.side ≠ 0 ∧ a.side ≠ 1 then 120 else if 6 ≤ a.kind ∧ (a.i < 0 ∨ (X.way.length:Int) ≤ a.i) then 122 else 0
def doX (X:Pr) (a:Act):Pr:=if badA X a = 0 then pumpX (pumpX (actX X a) 0) 1 else X
def doE (X:Pr) (a:Act):Int:=if badA X a = 0 then actE X a else badA X a
def runX (X:Pr) (l:List Act):Pr:=l.foldl doX X
structure Same (L L':Lk):Prop where
 own:L'.own = L.own
 phase:L'.phase = L.phase
 token:L'.token = L.token
 boot:L'.boot = L.boot
 yours:L'.yours = L.yours
 known:L'.known = L.known
 queue:L'.queue = L.queue
 base:L'.base = L.base
 expected:L'.expected = L.expected
theorem Same.refl (L:Lk):Same L L:=⟨rfl,rfl,rfl,rfl,rfl,rfl,rfl,rfl,rfl⟩
theorem Same.trans {a b c:Lk} (h:Same a b) (k:Same b c):Same a c :=
 ⟨k.own.trans h.own,k.phase.trans h.phase,k.token.trans h.token,k.boot.trans h.boot,k.yours.trans h.yours,k.known.trans h.known,k.queue.trans h.queue,k.base.trans h.base,k.expected.trans h.expected⟩
def Says (L:Lk) (p:Pkt):Prop:=(p = helloP L ∧ L.phase ≠ 0) ∨ (L.phase = 2 ∧ ∃ i:Nat,i < L.queue.length ∧ p = dataP L i) ∨ (L.phase = 2 ∧ p = ackP L)
theorem hello_same {L L':Lk} (h:Same L L'):helloP L' = helloP L:=by unfold helloP; rw [h.token,h.known,h.boot,h.yours,h.phase]
theorem data_same {L L':Lk} (h:Same L L') (i:Int):dataP L' i = dataP L i:=by unfold dataP; rw [h.token,h.boot,h.yours,h.base,h.expected,h.queue]
theorem ack_same {L L':Lk} (h:Same L L'):ackP L' = ackP L:=by unfold ackP; rw [h.token,h.boot,h.yours,h.expected]
theorem Says.same {L L':Lk} (h:Same L L') {p:Pkt} (hs:Says L p):Says L' p:=by
 rcases hs with hs | hs | hs
 ·exact .inl ⟨hs.1.trans (hello_same h).symm,by rw [h.phase]; exact hs.2⟩
 ·obtain ⟨h2,i,hi,hp⟩:=hs
  exact .inr (.inl ⟨by rw [h.phase]; exact h2,i,by rw [h.queue]; exact hi,hp.trans (data_same h i).symm⟩)
 ·exact .inr (.inr ⟨by rw [h.phase]; exact hs.1,hs.2.trans (ack_same h).symm⟩)
def SaysAll (L:Lk):Prop:=∀ p ∈ L.out,Says L p
theorem emit_same (L:Lk) (p:Pkt):Same L (emit_ L p):=by
 unfold emit_
 split
 ·exact ⟨rfl,rfl,rfl,rfl,rfl,rfl,rfl,rfl,rfl⟩
 ·exact Same.refl _
theorem emit_says {L:Lk} (h:SaysAll L) {p:Pkt} (hp:Says L p):SaysAll (emit_ L p):=by
 intro q hq
 refine Says.same (emit_same L p) ?_
 unfold emit_ at hq
 split at hq
 ·rcases List.mem_append.1 hq with hq | hq
  ·exact h q hq
  ·rw [List.mem_singleton.1 hq]; exact hp
 ·exact h q hq
theorem says_move {L L':Lk} (h:SaysAll L) (hs:Same L L') (ho:L'.out = L.out):SaysAll L':=fun p hp => (h p (ho ▸ hp)).same hs
theorem sendOne_same (L:Lk):Same L (sendOne L):=(show Same L { L with idle:=if L.sent = 0 then 0 else L.idle,sent:=L.sent + 1 } from ⟨rfl,rfl,rfl,rfl,rfl,rfl,rfl,rfl,rfl⟩).trans (emit_same _ _)
theorem fillN_same (n:Nat):∀ L:Lk,Same L (fillN n L):=by
 induction n with
 | zero => exact fun L => Same.refl L
 | succ n ih =>
  intro L
  unfold fillN
  split
  ·exact (sendOne_same L).trans (ih _)
  ·exact Same.refl L
theorem sendOne_says {L:Lk} (h:SaysAll L) (h2:L.phase = 2) (h0:0 ≤ L.sent) (hq:L.sent < L.queue.length):SaysAll (sendOne L):=by
 unfold sendOne
 have hs:Same L { L with idle:=if L.sent = 0 then 0 else L.idle,sent:=L.sent + 1 }:=⟨rfl,rfl,rfl,rfl,rfl,rfl,rfl,rfl,rfl⟩
 refine emit_says (says_move h hs rfl) (Says.same hs (.inr (.inl ⟨h2,L.sent.toNat,by omega,?_⟩)))
 rw [Int.toNat_of_nonneg h0]
theorem emit_sent (L:Lk) (p:Pkt):(emit_ L p).sent = L.sent:=by unfold emit_; split <;> rfl
theorem sendOne_sent (L:Lk):(sendOne L).sent = L.sent + 1:=emit_sent _ _
theorem fillN_says (n:Nat):∀ L:Lk,SaysAll L → L.phase = 2 → 0 ≤ L.sent → SaysAll (fillN n L):=by
 induction n with
 | zero => exact fun L h _ _ => h
 | succ n ih =>
  intro L h h2 h0
  unfold fillN
  split
  ·rename_i hc
   exact ih _ (sendOne_says h h2 h0 hc.1) ((sendOne_same L).phase.trans h2) (by rw [sendOne_sent]; omega)
  ·exact h
theorem fill_same (L:Lk):Same L (fill_ L):=fillN_same _ L
theorem sends_same (n:Nat) (L:Lk):Same L (sends n L):=by
 induction n with
 | zero => exact Same.refl L
 | succ n ih => exact ih.trans (emit_same _ _)
theorem sends_says (n:Nat) {L:Lk} (h:SaysAll L) (h2:L.phase = 2) (hn:n ≤ L.queue.length):SaysAll (sends n L):=by
 induction n with
 | zero => exact h
 | succ n ih =>
  have hs:=sends_same n L
  exact emit_says (ih (by omega)) (.inr (.inl ⟨by rw [hs.phase]; exact h2,n,by rw [hs.queue]; omega,(data_same hs n).symm⟩))
theorem says_nil {L:Lk} (h:L.out = []):SaysAll L:=fun p hp => by rw [h] at hp; cases hp
theorem rest_same (L:Lk) (d:Int):Same L (rest_ L d):=⟨rfl,rfl,rfl,rfl,rfl,rfl,rfl,rfl,rfl⟩
theorem tick_turn {L:Lk} (hok:L.Ok) (ho:L.out = []) (hq:L.phase ≠ 2 → L.queue = []):Same L (tick_ L) ∧ SaysAll (tick_ L):=by
 have hn:=says_nil ho
 have hs:=hok.sent
 have hph:=hok.phase
 have hr:∀ d,Same L (rest_ L d) ∧ SaysAll (rest_ L d):=fun d => ⟨rest_same L d,says_move hn (rest_same L d) rfl⟩
 unfold tick_
 split
 ·exact ⟨Same.refl L,hn⟩
 rename_i h0
 split
 ·exact hr 0
 split
 ·exact hr _
 split
 ·exact ⟨(hr 0).1.trans (emit_same _ _),emit_says (hr 0).2 (.inl ⟨rfl,h0⟩)⟩
 ·rename_i h1
  exact ⟨(hr 0).1.trans (sends_same _ _),sends_says _ (hr 0).2 (by show L.phase = 2; omega) (by show L.sent.toNat ≤ L.queue.length; omega)⟩
theorem open_turn {L:Lk} (ho:L.out = []) (hE:openE L = 0):L.phase = 0 ∧ L.token ≠ 4294967295 ∧ Same (begin_ L) (openL L) ∧ SaysAll (openL L):=by
 have hx:L.phase = 0 ∧ L.token ≠ 4294967295:=by
  unfold openE at hE
  split at hE
  ·rename_i h0
   split at hE
   ·exact absurd hE (by decide)
   ·rename_i h1; exact ⟨h0,h1⟩
  ·exact absurd hE (by decide)
 unfold openL
 rw [if_pos hx]
 exact ⟨hx.1,hx.2,emit_same _ _,emit_says (L:=begin_ L) (says_nil ho) (.inl ⟨rfl,show (1:Int) ≠ 0 by decide⟩)⟩
theorem open_no {L:Lk} (hE:openE L ≠ 0):openL L = L:=by
 unfold openL
 refine if_neg (fun h => hE ?_)
 unfold openE
 rw [if_pos h.1,if_neg h.2]
theorem send_turn {L:Lk} (hok:L.Ok) (ho:L.out = []) (body:List Int) (hE:sendE L body.length = 0):L.phase = 2 ∧ 0 < body.length ∧ body.length ≤ 1000 ∧ L.queue.length < 64 ∧ Same { L with queue:=L.queue ++ [body] } (sendL L body) ∧ SaysAll (sendL L body):=by
 have hx:L.phase = 2 ∧ ¬ (body.length = 0 ∨ 1000 < body.length) ∧ L.queue.length < 64:=by
  unfold sendE at hE
  split at hE
  ·split at hE
   ·exact absurd hE (by decide)
   ·split at hE
    ·exact absurd hE (by decide)
    ·rename_i a b c; exact ⟨a,b,by omega⟩
  ·exact absurd hE (by decide)
 unfold sendL
 rw [if_pos hE]
 exact ⟨hx.1,by omega,by omega,hx.2.2,fill_same _,fillN_says _ _ (says_nil ho) hx.1 hok.sent.1⟩
theorem send_no {L:Lk} {body:List Int} (hE:sendE L body.length ≠ 0):sendL L body = L:=if_neg hE
def upK (L:Lk) (p:Pkt) (k:Nat):Lk:={ L with expected:=(upM L p).expected,queue:=L.queue.drop k,base:=IntKind.u32.wrap (L.base + k) }
theorem upM_same (L:Lk) (p:Pkt):Same { L with expected:=(upM L p).expected } (upM L p):=by unfold upM; split <;> exact ⟨rfl,rfl,rfl,rfl,rfl,rfl,rfl,rfl,rfl⟩
inductive TakeC (L:Lk) (boot:Int) (p:Pkt):Lk → Tk → Prop
 | none {hd:Bool} (h:L.phase = 0 ∨ ageF L boot p.mine = -1 ∨ p.kind ≠ 1 ∧ (L.phase = 1 ∨ ageF L boot p.mine = 1 ∨ meantF L p = false) ∨ p.kind = 1 ∧ L.phase = 2 ∧ ageF L boot p.mine = 0 ∧ p.seq ≠ 0):TakeC L boot p L ⟨hd,false,false,[]⟩
 | up {L':Lk} (h1:L.phase = 1) (hk:p.kind = 1) (ha:ageF L boot p.mine ≠ -1) (hm:meantF L p = true) (hs:Same { peerL L boot p with phase:=2 } L') (hy:L' = emit_ { peerL L boot p with phase:=2 } (helloP { peerL L boot p with phase:=2 })):TakeC L boot p L' ⟨true,true,false,[]⟩
 | learn {L':Lk} (h1:L.phase = 1) (hk:p.kind = 1) (ha:ageF L boot p.mine ≠ -1) (hm:meantF L p = false) (hs:Same (peerL L boot p) L') (hy:L' = emit_ (peerL L boot p) (helloP (peerL L boot p))):TakeC L boot p L' ⟨true,false,false,[]⟩
 | again {L':Lk} (h2:L.phase = 2) (hk:p.kind = 1) (ha:ageF L boot p.mine = 0) (h0:p.seq = 0) (hs:Same L L') (hy:L' = emit_ L (helloP L)):TakeC L boot p L' ⟨true,false,false,[]⟩
 | last (h2:L.phase = 2) (hk:p.kind = 1) (ha:ageF L boot p.mine = 1) (ht:L.token = 4294967295):TakeC L boot p (shut_ L) ⟨true,false,true,[]⟩
 | anew {L':Lk} (h2:L.phase = 2) (hk:p.kind = 1) (ha:ageF L boot p.mine = 1) (ht:L.token ≠ 4294967295) (hs:Same (peerL (begin_ L) boot p) L') (hy:L' = emit_ (peerL (begin_ L) boot p) (helloP (peerL (begin_ L) boot p))):TakeC L boot p L' ⟨true,false,true,[]⟩
 | signal {L':Lk} (h2:L.phase = 2) (hk:p.kind ≠ 1) (ha:ageF L boot p.mine = 0) (hm:meantF L p = true) (k:Nat) (hkk:k = 0 ∨ 1 ≤ k ∧ (k:Int) ≤ L.sent ∧ k = ackK L p) (hx:Same (upK L p k) L') (hy:L' = upL L p):TakeC L boot p L' ⟨true,false,false,upB L p⟩
theorem upM_queue (L:Lk) (p:Pkt):(upM L p).queue = L.queue:=by unfold upM; split <;> rfl
theorem upM_base (L:Lk) (p:Pkt):(upM L p).base = L.base:=by unfold upM; split <;> rfl
theorem upM_sent' (L:Lk) (p:Pkt):(upM L p).sent = L.sent:=by unfold upM; split <;> rfl
theorem upM_out (L:Lk) (p:Pkt):(upM L p).out = L.out:=by unfold upM; split <;> rfl
theorem upM_phase' (L:Lk) (p:Pkt):(upM L p).phase = L.phase:=by unfold upM; split <;> rfl
theorem up_turn {L:Lk} (hok:L.Ok) (ho:L.out = []) (p:Pkt) (h2:L.phase = 2):∃ k:Nat,(k = 0 ∨ 1 ≤ k ∧ (k:Int) ≤ L.sent ∧ k = ackK L p) ∧ Same (upK L p k) (upL L p) ∧ SaysAll (upL L p):=by
 have hb:=hok.base
 have h1:∃ k:Nat,(k = 0 ∨ 1 ≤ k ∧ (k:Int) ≤ L.sent ∧ k = ackK L p) ∧ Same (upK L p k) (upN L p) ∧ SaysAll (upN L p) ∧ (upN L p).phase = 2:=by
  unfold upN
  split
  ·rename_i hc
   have hf:=fill_same (cutL (upM L p) (ackK L p))
   refine ⟨ackK L p,.inr ⟨hc.1,hc.2,rfl⟩,?_,fillN_says _ _ (says_nil (by show (upM L p).out = []; rw [upM_out]; exact ho)) (by show (upM L p).phase = 2; rw [upM_phase']; exact h2) (by show 0 ≤ (upM L p).sent - (ackK L p:Int); rw [upM_sent']; omega),hf.phase.trans (by show (upM L p).phase = 2; rw [upM_phase']; exact h2)⟩
   have hm:=upM_same L p
   refine Same.trans (b:=cutL (upM L p) (ackK L p)) ⟨hm.own,hm.phase,hm.token,hm.boot,hm.yours,hm.known,?_,?_,rfl⟩ hf
   ·show (upM L p).queue.drop _ = _; rw [upM_queue]; rfl
   ·show IntKind.u32.wrap ((upM L p).base + _) = _; rw [upM_base]; rfl
  ·have hm:=upM_same L p
   refine ⟨0,.inl rfl,⟨hm.own,hm.phase,hm.token,hm.boot,hm.yours,hm.known,by rw [upM_queue]; rfl,?_,rfl⟩,says_nil (by rw [upM_out]; exact ho),by rw [upM_phase']; exact h2⟩
   show (upM L p).base = IntKind.u32.wrap (L.base + ((0:Nat):Int))
   rw [upM_base,wrapU]; omega
 obtain ⟨k,hk,hs,hsa,hph⟩:=h1
 refine ⟨k,hk,?_⟩
 unfold upL
 split
 ·exact ⟨hs.trans (emit_same _ _),emit_says hsa (.inr (.inr ⟨hph,rfl⟩))⟩
 ·exact ⟨hs,hsa⟩
theorem age_cases (L:Lk) (boot mine:Int):ageF L boot mine = -1 ∨ ageF L boot mine = 0 ∨ ageF L boot mine = 1:=by
 unfold ageF
 split
 ·exact .inl rfl
 ·split
  ·split
   ·exact .inl rfl
   ·split
    ·exact .inr (.inl rfl)
    ·exact .inr (.inr rfl)
  ·exact .inr (.inr rfl)
theorem take_turn {L:Lk} (hok:L.Ok) (ho:L.out = []) (boot:Int) (p:Pkt):TakeC L boot p (takeF L boot p).1 (takeF L boot p).2 ∧ SaysAll (takeF L boot p).1:=by
 have hph:=hok.phase
 have hag:=age_cases L boot p.mine
 have hn:=says_nil ho
 unfold takeF
 split
 ·rename_i hc
  exact ⟨.none (hc.elim .inl (fun x => .inr (.inl x))),hn⟩
 rename_i hc
 have hc0:L.phase ≠ 0:=fun h => hc (.inl h)
 have hca:ageF L boot p.mine ≠ -1:=fun h => hc (.inr h)
 split
 ·rename_i hk
  split
  ·rename_i h1
   split
   ·rename_i hm
    exact ⟨.up h1 hk hca hm (emit_same _ _) rfl,emit_says (L:={ peerL L boot p with phase:=2 }) (says_nil ho) (.inl ⟨rfl,show (2:Int) ≠ 0 by decide⟩)⟩
   ·rename_i hm
    exact ⟨.learn h1 hk hca (by simpa using hm) (emit_same _ _) rfl,emit_says (L:=peerL L boot p) (says_nil ho) (.inl ⟨rfl,show L.phase ≠ 0 from hc0⟩)⟩
  ·rename_i h1
   have h2:L.phase = 2:=by omega
   split
   ·rename_i ha
    by_cases h0:p.seq = 0
    ·rw [if_pos h0]
     exact ⟨.again h2 hk ha h0 (emit_same _ _) rfl,emit_says hn (.inl ⟨rfl,hc0⟩)⟩
    ·rw [if_neg h0]
     exact ⟨.none (.inr (.inr (.inr ⟨hk,h2,ha,h0⟩))),hn⟩
   ·rename_i ha
    have ha1:ageF L boot p.mine = 1:=by omega
    split
    ·rename_i ht
     exact ⟨.last h2 hk ha1 ht,says_nil ho⟩
    ·rename_i ht
     exact ⟨.anew h2 hk ha1 ht (emit_same _ _) rfl,emit_says (L:=peerL (begin_ L) boot p) (says_nil ho) (.inl ⟨rfl,show (1:Int) ≠ 0 by decide⟩)⟩
 ·rename_i hk
  split
  ·rename_i hu
   obtain ⟨k,hkk,hs,hsa⟩:=up_turn hok ho p hu.1
   exact ⟨.signal hu.1 hk hu.2.1 hu.2.2 k hkk hs rfl,hsa⟩
  ·rename_i hu
   refine ⟨.none (.inr (.inr (.inl ⟨hk,?_⟩))),hn⟩
   by_cases h1:L.phase = 1
   ·exact .inl h1
   ·rcases hag with ha | ha | ha
    ·exact absurd ha hca
    ·right; right
     cases hm:meantF L p
     ·rfl
     ·exact absurd ⟨by omega,ha,hm⟩ hu
    ·exact .inr (.inl ha)
end Go.Proofs.Ytnkkgofpifhoeaa.Pr
end
section
namespace Go.Proofs.Ytnkkgofpifhoeaa.Pr
open Go.Proofs.Ytnkkgofpifhoeaa.Lk
abbrev Key:=Int × Int × Int × Int
def keyE (e:Ent):Key:=(e.boot,e.mine,e.peer,e.yours)
def keyL (L:Lk):Key:=(L.own,L.token,L.boot,L.yours)
def mir (K:Key):Key:=(K.2.2.1,K.2.2.2,K.1,K.2.1)
def ofK (c:Int) (l:List Ent) (K:Key):List (List Int):=(l.filter (fun e => decide (e.kind = c ∧ keyE e = K))).map (·.body)
theorem ofK_append (c:Int) (a b:List Ent) (K:Key):ofK c (a ++ b) K = ofK c a K ++ ofK c b K:=by simp [ofK]
theorem ofK_one (c:Int) (e:Ent) (K:Key):ofK c [e] K = if e.kind = c ∧ keyE e = K then [e.body] else []:=by
 unfold ofK
 by_cases h:e.kind = c ∧ keyE e = K
 ·rw [if_pos h,List.filter_cons_of_pos (by simpa using h)]; rfl
 ·rw [if_neg h,List.filter_cons_of_neg (by simpa using h)]; rfl
theorem ofK_no {c:Int} {l:List Ent} {e:Ent} {K:Key} (h:e.kind ≠ c):ofK c (l ++ [e]) K = ofK c l K:=by
 rw [ofK_append,ofK_one,if_neg (fun x => h x.1),List.append_nil]
theorem ofK_yes {c:Int} {l:List Ent} {e:Ent} {K:Key} (h:e.kind = c) (hk:keyE e = K):ofK c (l ++ [e]) K = ofK c l K ++ [e.body]:=by
 rw [ofK_append,ofK_one,if_pos ⟨h,hk⟩]
theorem ofK_ne {c:Int} {l:List Ent} {e:Ent} {K:Key} (hk:keyE e ≠ K):ofK c (l ++ [e]) K = ofK c l K:=by
 rw [ofK_append,ofK_one,if_neg (fun x => hk x.2),List.append_nil]
theorem ofK_len (c:Int) (l:List Ent) (K:Key):(ofK c l K).length ≤ l.length:=by
 unfold ofK; rw [List.length_map]; exact List.length_filter_le _ _
theorem ofK_nil {c:Int} {l:List Ent} {K:Key} (h:∀ e ∈ l,e.kind = c → keyE e ≠ K):ofK c l K = []:=by
 unfold ofK
 rw [List.filter_eq_nil_iff.2,List.map_nil]
 intro e he
 simp only [decide_eq_true_eq]
 exact fun hx => h e he hx.1 hx.2
def sn (m:Nat):Int:=IntKind.u32.wrap (4294967293 + (m:Int))
theorem sn_succ (m:Nat):IntKind.u32.wrap (sn m + 1) = sn (m + 1):=by unfold sn; simp only [wrapU]; omega
theorem sn_add (m k:Nat):IntKind.u32.wrap (sn m + (k:Int)) = sn (m + k):=by unfold sn; simp only [wrapU]; omega
theorem sn_addw (m k:Nat):IntKind.u32.wrap (sn m + IntKind.u32.wrap (k:Int)) = sn (m + k):=by unfold sn; simp only [wrapU]; omega
theorem sn_inj {m n:Nat} (hm:m < 4294967296) (hn:n < 4294967296) (h:sn m = sn n):m = n:=by unfold sn at h; simp only [wrapU] at h; omega
theorem sn0:sn 0 = 4294967293:=by decide
def chkS (st:Option (Bool × Key)) (e:Ent):Option (Bool × Key) :=
 match st with
 | none => none
 | some (up,last) =>
  if e.kind = 5 then (if e.boot = last.1 + 1 then some (false,(e.boot,0,0,0)) else none)
  else if e.kind = 1 then (if up = true ∨ e.boot ≠ last.1 ∨ e.mine ≤ last.2.1 ∨ e.peer = 0 ∨ e.yours = 0 ∨ e.peer < last.2.2.1 ∨ (e.peer = last.2.2.1 ∧ e.yours < last.2.2.2) then none else some (true,keyE e))
  else if up = false ∨ keyE e ≠ last then none else some (decide (e.kind ≠ 2),last)
def chk (l:List Ent):Option (Bool × Key):=l.foldl chkS (some (false,(1,0,0,0)))
theorem chk_snoc (l:List Ent) (e:Ent):chk (l ++ [e]) = chkS (chk l) e:=by unfold chk; rw [List.foldl_append]; rfl
structure Chk (d:Sd) (up:Bool) (K:Key):Prop where
 eq:chk d.log = some (up,K)
 up:up = decide (d.end_.phase = 2)
 boot:K.1 = d.end_.own
 mine0:0 ≤ K.2.1
 mine:K.2.1 ≤ d.end_.token
 less:d.end_.phase = 1 → K.2.1 < d.end_.token
 peer:K.2.2.1 < d.end_.boot ∨ K.2.2.1 = d.end_.boot ∧ K.2.2.2 ≤ d.end_.yours
 key:d.end_.phase = 2 → K = keyL d.end_
structure SideI (d:Sd) (N:Nat):Prop where
 fine:d.end_.Fine
 boot:d.boot = d.end_.own
 last:d.end_.phase = 2 → (d.last.boot,d.last.mine,d.last.peer,d.last.yours) = keyL d.end_
 len:d.log.length ≤ N
 told:∃ up K,Chk d up K
 fresh:∀ e ∈ d.log,e.kind = 3 ∨ e.kind = 4 → e.boot < d.end_.own ∨ e.boot = d.end_.own ∧ e.mine ≤ d.end_.token ∧ (d.end_.phase = 1 → e.mine < d.end_.token)
 init:d.end_.phase = 1 → d.end_.expected = sn 0 ∧ d.end_.base = sn 0
 got:d.end_.phase = 2 → d.end_.expected = sn (ofK 4 d.log (keyL d.end_)).length
 sent:d.end_.phase = 2 → ∃ m,m ≤ (ofK 3 d.log (keyL d.end_)).length ∧ d.end_.queue = (ofK 3 d.log (keyL d.end_)).drop m ∧ d.end_.base = sn m
 short:∀ e ∈ d.log,e.body.length ≤ 1000
theorem keyL_same {L L':Lk} (h:Same L L'):keyL L' = keyL L:=by unfold keyL; rw [h.own,h.token,h.boot,h.yours]
theorem Chk.same {d d':Sd} {up:Bool} {K:Key} (h:Chk d up K) (hl:d'.log = d.log) (hs:Same d.end_ d'.end_):Chk d' up K :=
 ⟨by rw [hl]; exact h.eq,by rw [hs.phase]; exact h.up,by rw [hs.own]; exact h.boot,h.mine0,by rw [hs.token]; exact h.mine,by rw [hs.phase,hs.token]; exact h.less,by rw [hs.boot,hs.yours]; exact h.peer,by rw [hs.phase,keyL_same hs]; exact h.key⟩
theorem SideI.same {d d':Sd} {N:Nat} (h:SideI d N) (hb:d'.boot = d.boot) (hl:d'.log = d.log) (hla:d'.last = d.last) (hs:Same d.end_ d'.end_) (hf:d'.end_.Fine):SideI d' N:=by
 obtain ⟨up,K,hc⟩:=h.told
 refine ⟨hf,by rw [hb,hs.own]; exact h.boot,fun h2 => ?_,by rw [hl]; exact h.len,⟨up,K,hc.same hl hs⟩,fun e he => ?_,fun h1 => ?_,fun h2 => ?_,fun h2 => ?_,by rw [hl]; exact h.short⟩
 ·rw [hla,keyL_same hs]; exact h.last (by rw [← hs.phase]; exact h2)
 ·rw [hs.own,hs.token,hs.phase]; exact h.fresh e (hl ▸ he)
 ·rw [hs.expected,hs.base]; exact h.init (by rw [← hs.phase]; exact h1)
 ·rw [hs.expected,hl,keyL_same hs]; exact h.got (by rw [← hs.phase]; exact h2)
 ·rw [hs.queue,hs.base,hl,keyL_same hs]; exact h.sent (by rw [← hs.phase]; exact h2)
theorem SideI.more {d:Sd} {N M:Nat} (h:SideI d N) (hm:N ≤ M):SideI d M:=⟨h.fine,h.boot,h.last,Nat.le_trans h.len hm,h.told,h.fresh,h.init,h.got,h.sent,h.short⟩
theorem entF_key {d:Sd} (c:Int) (b:List Int):keyE (entF d c b) = (d.last.boot,d.last.mine,d.last.peer,d.last.yours):=rfl
theorem entF_key2 {d:Sd} {N:Nat} (h:SideI d N) (h2:d.end_.phase = 2) (c:Int) (b:List Int):keyE (entF d c b) = keyL d.end_:=(entF_key c b).trans (h.last h2)
theorem short_snoc {l:List Ent} {e:Ent} (h:∀ x ∈ l,x.body.length ≤ 1000) (he:e.body.length ≤ 1000):∀ x ∈ l ++ [e],x.body.length ≤ 1000:=fun x hx => (List.mem_append.1 hx).elim (h x) (fun y => by rw [List.mem_singleton.1 y]; exact he)
theorem len_snoc {l:List Ent} {e:Ent} {N:Nat} (h:l.length ≤ N):(l ++ [e]).length ≤ N + 1:=by rw [List.length_append]; simp only [List.length_singleton]; omega
theorem Chk.tell {d:Sd} {N:Nat} (hs:SideI d N) {up:Bool} {K:Key} (h:Chk d up K) (h2:d.end_.phase = 2) {c:Int} (hc:c ≠ 1 ∧ c ≠ 5 ∧ c ≠ 2) (b:List Int):chk (d.log ++ [entF d c b]) = some (true,K):=by
 have hk:=(entF_key2 hs h2 c b).trans (h.key h2).symm
 have hu:up = true:=by rw [h.up]; exact decide_eq_true h2
 rw [chk_snoc,h.eq]
 unfold chkS
 simp only []
 rw [if_neg (show ¬ (entF d c b).kind = 5 from hc.2.1),if_neg (show ¬ (entF d c b).kind = 1 from hc.1),if_neg (by rw [hu]; rintro (hx | hx); exact absurd hx (by decide); exact hx hk)]
 rw [decide_eq_true (show (entF d c b).kind ≠ 2 from hc.2.2)]
theorem Chk.down {d:Sd} {N:Nat} (hs:SideI d N) {up:Bool} {K:Key} (h:Chk d up K) (h2:d.end_.phase = 2) (b:List Int):chk (d.log ++ [entF d 2 b]) = some (false,K):=by
 have hk:=(entF_key2 hs h2 2 b).trans (h.key h2).symm
 have hu:up = true:=by rw [h.up]; exact decide_eq_true h2
 rw [chk_snoc,h.eq]
 unfold chkS
 simp only []
 rw [if_neg (show ¬ (entF d 2 b).kind = 5 from by show ¬ (2:Int) = 5; decide),if_neg (show ¬ (entF d 2 b).kind = 1 from by show ¬ (2:Int) = 1; decide),if_neg (by rw [hu]; rintro (hx | hx); exact absurd hx (by decide); exact hx hk)]
 rw [show decide ((entF d 2 b).kind ≠ 2) = false from by show decide ((2:Int) ≠ 2) = false; decide]
theorem SideI.send {d:Sd} {N:Nat} (h:SideI d N) (h2:d.end_.phase = 2) {L':Lk} (b:List Int) (hs:Same { d.end_ with queue:=d.end_.queue ++ [b] } L') (hf:L'.Fine) (hbl:b.length ≤ 1000):SideI (noteF (endF d L') 3 b) (N + 1):=by
 obtain ⟨up,K,hc⟩:=h.told
 have hkey:keyL L' = keyL d.end_:=(keyL_same hs).trans rfl
 have hph:L'.phase = 2:=hs.phase.trans h2
 have hek:keyE (entF (endF d L') 3 b) = keyL d.end_:=entF_key2 h h2 3 b
 have hyes:ofK 3 (d.log ++ [entF (endF d L') 3 b]) (keyL L') = ofK 3 d.log (keyL d.end_) ++ [b]:=by rw [hkey]; exact ofK_yes rfl hek
 refine ⟨hf,h.boot.trans hs.own.symm,fun _ => (h.last h2).trans hkey.symm,len_snoc h.len,⟨true,K,⟨hc.tell h h2 (c:=3) (by decide) b,(decide_eq_true hph).symm,hc.boot.trans hs.own.symm,hc.mine0,?_,fun h1 => ?_,?_,fun _ => (hc.key h2).trans hkey.symm⟩⟩,fun e he hk => ?_,fun h1 => ?_,fun _ => ?_,fun _ => ?_,short_snoc h.short hbl⟩
 ·show _ ≤ L'.token; rw [hs.token]; exact hc.mine
 ·have h1':L'.phase = 1:=h1
  omega
 ·show _ < L'.boot ∨ _ = L'.boot ∧ _ ≤ L'.yours
  rw [hs.boot,hs.yours]; exact hc.peer
 ·show _ < L'.own ∨ _ = L'.own ∧ _ ≤ L'.token ∧ (L'.phase = 1 → _)
  rw [hs.own,hs.token]
  rcases List.mem_append.1 he with he | he
  ·have:=h.fresh e he hk
   rcases this with hx | hx
   ·exact .inl hx
   ·exact .inr ⟨hx.1,hx.2.1,fun h1 => by omega⟩
  ·rw [List.mem_singleton.1 he]
   have h3:=hek
   unfold keyL keyE at h3
   injection h3 with h4 h5
   injection h5 with h5 h6
   exact .inr ⟨h4,by rw [h5]; exact Int.le_refl _,fun h1 => by omega⟩
 ·have h1':L'.phase = 1:=h1
  omega
 ·show L'.expected = sn (ofK 4 (d.log ++ [entF (endF d L') 3 b]) (keyL L')).length
  rw [ofK_no (show (3:Int) ≠ 4 by decide),hkey,hs.expected]
  exact h.got h2
 ·obtain ⟨m,hm,hq,hb⟩:=h.sent h2
  show ∃ m,m ≤ (ofK 3 (d.log ++ [entF (endF d L') 3 b]) (keyL L')).length ∧ L'.queue = (ofK 3 (d.log ++ [entF (endF d L') 3 b]) (keyL L')).drop m ∧ L'.base = sn m
  rw [hyes,hs.queue,hs.base]
  refine ⟨m,by rw [List.length_append]; omega,?_,hb⟩
  show d.end_.queue ++ [b] = _
  rw [List.drop_append_of_le_length hm,← hq]
theorem SideI.signal {d:Sd} {N:Nat} (h:SideI d N) (h2:d.end_.phase = 2) {p:Pkt} {L':Lk} (k:Nat) (hk:k ≤ d.end_.queue.length) (hx:Same (upK d.end_ p k) L') (hf:L'.Fine) (hd:¬ (p.kind = 2 ∧ p.seq = d.end_.expected)):SideI (endF d L') (N + 1):=by
 obtain ⟨up,K,hc⟩:=h.told
 have hkey:keyL L' = keyL d.end_:=(keyL_same hx).trans rfl
 have hph:L'.phase = 2:=hx.phase.trans h2
 have hu:up = true:=by rw [hc.up]; exact decide_eq_true h2
 have hexp:L'.expected = d.end_.expected:=by rw [hx.expected]; show (upM d.end_ p).expected = _; unfold upM; rw [if_neg hd]
 refine ⟨hf,h.boot.trans hx.own.symm,fun _ => (h.last h2).trans hkey.symm,by exact Nat.le_succ_of_le h.len,⟨true,K,⟨by rw [← hu]; exact hc.eq,(decide_eq_true hph).symm,hc.boot.trans hx.own.symm,hc.mine0,?_,fun h1 => ?_,?_,fun _ => (hc.key h2).trans hkey.symm⟩⟩,fun e he hk => ?_,fun h1 => ?_,fun _ => ?_,fun _ => ?_,h.short⟩
 ·show _ ≤ L'.token; rw [hx.token]; exact hc.mine
 ·have h1':L'.phase = 1:=h1
  omega
 ·show _ < L'.boot ∨ _ = L'.boot ∧ _ ≤ L'.yours
  rw [hx.boot,hx.yours]; exact hc.peer
 ·show _ < L'.own ∨ _ = L'.own ∧ _ ≤ L'.token ∧ (L'.phase = 1 → _)
  rw [hx.own,hx.token]
  rcases h.fresh e he hk with hx | hx
  ·exact .inl hx
  ·exact .inr ⟨hx.1,hx.2.1,fun h1 => by omega⟩
 ·have h1':L'.phase = 1:=h1
  omega
 ·show L'.expected = sn (ofK 4 d.log (keyL L')).length
  rw [hkey,hexp]; exact h.got h2
 ·obtain ⟨m,hm,hq,hb⟩:=h.sent h2
  show ∃ m,m ≤ (ofK 3 d.log (keyL L')).length ∧ L'.queue = (ofK 3 d.log (keyL L')).drop m ∧ L'.base = sn m
  rw [hkey,hx.queue,hx.base]
  have hl:d.end_.queue.length = (ofK 3 d.log (keyL d.end_)).length - m:=by rw [hq,List.length_drop]
  refine ⟨m + k,by omega,?_,?_⟩
  ·show d.end_.queue.drop k = _
   rw [hq,List.drop_drop]
  ·show IntKind.u32.wrap (d.end_.base + (k:Int)) = _
   rw [hb,sn_add]
theorem SideI.got_ {d:Sd} {N:Nat} (h:SideI d N) (h2:d.end_.phase = 2) {p:Pkt} {L':Lk} (k:Nat) (hk:k ≤ d.end_.queue.length) (hx:Same (upK d.end_ p k) L') (hf:L'.Fine) (hd:p.kind = 2 ∧ p.seq = d.end_.expected) (b:List Int) (hbl:b.length ≤ 1000):SideI (noteF (endF d L') 4 b) (N + 1):=by
 obtain ⟨up,K,hc⟩:=h.told
 have hkey:keyL L' = keyL d.end_:=(keyL_same hx).trans rfl
 have hph:L'.phase = 2:=hx.phase.trans h2
 have hek:keyE (entF (endF d L') 4 b) = keyL d.end_:=entF_key2 h h2 4 b
 have hyes:ofK 4 (d.log ++ [entF (endF d L') 4 b]) (keyL L') = ofK 4 d.log (keyL d.end_) ++ [b]:=by rw [hkey]; exact ofK_yes rfl hek
 have hexp:L'.expected = IntKind.u32.wrap (d.end_.expected + 1):=by rw [hx.expected]; show (upM d.end_ p).expected = _; unfold upM; rw [if_pos hd]; rfl
 refine ⟨hf,h.boot.trans hx.own.symm,fun _ => (h.last h2).trans hkey.symm,len_snoc h.len,⟨true,K,⟨hc.tell h h2 (c:=4) (by decide) b,(decide_eq_true hph).symm,hc.boot.trans hx.own.symm,hc.mine0,?_,fun h1 => ?_,?_,fun _ => (hc.key h2).trans hkey.symm⟩⟩,fun e he hk => ?_,fun h1 => ?_,fun _ => ?_,fun _ => ?_,short_snoc h.short hbl⟩
 ·show _ ≤ L'.token; rw [hx.token]; exact hc.mine
 ·have h1':L'.phase = 1:=h1
  omega
 ·show _ < L'.boot ∨ _ = L'.boot ∧ _ ≤ L'.yours
  rw [hx.boot,hx.yours]; exact hc.peer
 ·show _ < L'.own ∨ _ = L'.own ∧ _ ≤ L'.token ∧ (L'.phase = 1 → _)
  rw [hx.own,hx.token]
  rcases List.mem_append.1 he with he | he
  ·rcases h.fresh e he hk with hx | hx
   ·exact .inl hx
   ·exact .inr ⟨hx.1,hx.2.1,fun h1 => by omega⟩
  ·rw [List.mem_singleton.1 he]
   have h3:=hek
   unfold keyL keyE at h3
   injection h3 with h4 h5
   injection h5 with h5 h6
   exact .inr ⟨h4,by rw [h5]; exact Int.le_refl _,fun h1 => by omega⟩
 ·have h1':L'.phase = 1:=h1
  omega
 ·show L'.expected = sn (ofK 4 (d.log ++ [entF (endF d L') 4 b]) (keyL L')).length
  rw [hyes,hexp,h.got h2,sn_succ,List.length_append]; rfl
 ·obtain ⟨m,hm,hq,hb⟩:=h.sent h2
  show ∃ m,m ≤ (ofK 3 (d.log ++ [entF (endF d L') 4 b]) (keyL L')).length ∧ L'.queue = (ofK 3 (d.log ++ [entF (endF d L') 4 b]) (keyL L')).drop m ∧ L'.base = sn m
  rw [ofK_no (show (4:Int) ≠ 3 by decide),hkey,hx.queue,hx.base]
  have hl:d.end_.queue.length = (ofK 3 d.log (keyL d.end_)).length - m:=by rw [hq,List.length_drop]
  refine ⟨m + k,by omega,?_,?_⟩
  ·show d.end_.queue.drop k = _
   rw [hq,List.drop_drop]
  ·show IntKind.u32.wrap (d.end_.base + (k:Int)) = _
   rw [hb,sn_add]
theorem SideI.leave {d:Sd} {N:Nat} (h:SideI d N) {L':Lk} (hf:L'.Fine) (hp:L'.phase ≠ 2) (ho:L'.own = d.end_.own) (ht:d.end_.token ≤ L'.token) (ht1:L'.phase = 1 → d.end_.token < L'.token)
  (hb:d.end_.boot < L'.boot ∨ d.end_.boot = L'.boot ∧ d.end_.yours ≤ L'.yours) (hi:L'.phase = 1 → L'.expected = sn 0 ∧ L'.base = sn 0):SideI (if d.end_.phase = 2 then noteF (endF d L') 2 [] else endF d L') (N + 1):=by
 obtain ⟨up,K,hc⟩:=h.told
 have hm:=hc.mine
 have hpe:=hc.peer
 have hfr:∀ e ∈ d.log,e.kind = 3 ∨ e.kind = 4 → e.boot < L'.own ∨ e.boot = L'.own ∧ e.mine ≤ L'.token ∧ (L'.phase = 1 → e.mine < L'.token):=fun e he hk => by
  rw [ho]
  rcases h.fresh e he hk with hx | hx
  ·exact .inl hx
  ·exact .inr ⟨hx.1,by omega,fun h1 => by have:=ht1 h1; omega⟩
 have hck:∀ (d':Sd) (u:Bool),d'.end_ = L' → u = false → chk d'.log = some (u,K) → Chk d' u K:=fun d' u he hu hq => ⟨hq,by rw [he,hu]; exact (decide_eq_false hp).symm,by rw [he,ho]; exact hc.boot,hc.mine0,by rw [he]; omega,fun h1 => by rw [he] at h1 ⊢; have:=ht1 h1; omega,by rw [he]; omega,fun h2 => absurd (he ▸ h2) hp⟩
 split
 ·rename_i h2
  refine ⟨hf,h.boot.trans ho.symm,fun h2 => absurd h2 hp,len_snoc h.len,⟨false,K,hck _ _ rfl rfl (hc.down h h2 [])⟩,fun e he hk => ?_,hi,fun h2 => absurd h2 hp,fun h2 => absurd h2 hp,short_snoc h.short (Nat.zero_le _)⟩
  rcases List.mem_append.1 he with he | he
  ·exact hfr e he hk
  ·rw [List.mem_singleton.1 he] at hk
   exact absurd hk (by show ¬ ((2:Int) = 3 ∨ (2:Int) = 4); decide)
 ·rename_i h2
  have hu:up = false:=by rw [hc.up]; exact decide_eq_false h2
  exact ⟨hf,h.boot.trans ho.symm,fun h2 => absurd h2 hp,Nat.le_succ_of_le h.len,⟨false,K,hck _ _ rfl rfl (by rw [← hu]; exact hc.eq)⟩,hfr,hi,fun h2 => absurd h2 hp,fun h2 => absurd h2 hp,h.short⟩
theorem SideI.learn {d:Sd} {N:Nat} (h:SideI d N) (h1:d.end_.phase = 1) {L':Lk} {b y:Int} (hs:Same { d.end_ with boot:=b,yours:=y,known:=true } L') (hf:L'.Fine) (hb:d.end_.boot < b ∨ d.end_.boot = b ∧ d.end_.yours ≤ y):SideI (endF d L') (N + 1):=by
 obtain ⟨up,K,hc⟩:=h.told
 have hph:L'.phase = 1:=hs.phase.trans h1
 have hpe:=hc.peer
 have hu:up = false:=by rw [hc.up]; exact decide_eq_false (by omega)
 refine ⟨hf,h.boot.trans hs.own.symm,fun h2 => ?_,Nat.le_succ_of_le h.len,⟨false,K,⟨by rw [← hu]; exact hc.eq,(decide_eq_false (by show ¬ L'.phase = 2; omega)).symm,hc.boot.trans hs.own.symm,hc.mine0,?_,fun _ => ?_,?_,fun h2 => ?_⟩⟩,fun e he hk => ?_,fun _ => ?_,fun h2 => ?_,fun h2 => ?_,h.short⟩
 ·have h2':L'.phase = 2:=h2
  omega
 ·show _ ≤ L'.token; rw [hs.token]; exact hc.mine
 ·show _ < L'.token; rw [hs.token]; exact hc.less h1
 ·show _ < L'.boot ∨ _ = L'.boot ∧ _ ≤ L'.yours
  rw [hs.boot,hs.yours]
  show _ < b ∨ _ = b ∧ _ ≤ y
  omega
 ·have h2':L'.phase = 2:=h2
  omega
 ·show _ < L'.own ∨ _ = L'.own ∧ _ ≤ L'.token ∧ (L'.phase = 1 → _ < L'.token)
  rw [hs.own,hs.token,hs.phase]; exact h.fresh e he hk
 ·show L'.expected = _ ∧ L'.base = _
  rw [hs.expected,hs.base]; exact h.init h1
 ·have h2':L'.phase = 2:=h2
  omega
 ·have h2':L'.phase = 2:=h2
  omega
theorem SideI.up {d:Sd} {N:Nat} (h:SideI d N) (h1:d.end_.phase = 1) {L':Lk} {b y:Int} (hs:Same { d.end_ with boot:=b,yours:=y,known:=true,phase:=2 } L') (hf:L'.Fine) (hb:d.end_.boot < b ∨ d.end_.boot = b ∧ d.end_.yours ≤ y) (hb0:0 < b) (hy0:0 < y):SideI (noteF (upS (endF d L')) 1 []) (N + 1):=by
 obtain ⟨up,K,hc⟩:=h.told
 have hph:L'.phase = 2:=hs.phase
 have hpe:=hc.peer
 have hle:=hc.less h1
 have hu:up = false:=by rw [hc.up]; exact decide_eq_false (by omega)
 have hkn:L'.known = true:=hs.known
 have hB:L'.boot = b:=hs.boot
 have hY:L'.yours = y:=hs.yours
 have hla:((upS (endF d L')).last.boot,(upS (endF d L')).last.mine,(upS (endF d L')).last.peer,(upS (endF d L')).last.yours) = keyL L':=by
  show (d.boot,L'.token,(if L'.known = true then L'.boot else 0),(if L'.known = true then L'.yours else 0)) = _
  rw [if_pos hkn,if_pos hkn,h.boot]
  unfold keyL; rw [hs.own]
 have hek:keyE (entF (upS (endF d L')) 1 []) = keyL L':=hla
 have hemp:∀ c,c = 3 ∨ c = 4 → ofK c d.log (keyL L') = []:=fun c hcc => ofK_nil (fun e he hk hx => by
  have h3:=hx
  unfold keyL keyE at h3
  injection h3 with h4 h5
  injection h5 with h5 h6
  rw [hs.own] at h4; rw [hs.token] at h5
  have h4':e.boot = d.end_.own:=h4
  have h5':e.mine = d.end_.token:=h5
  rcases h.fresh e he (by rw [hk]; exact hcc) with hx | hx
  ·omega
  ·have:=hx.2.2 h1; omega)
 have hq0:d.end_.queue = []:=h.fine.idleq (by omega)
 refine ⟨hf,h.boot.trans hs.own.symm,fun _ => hla,len_snoc h.len,⟨true,keyL L',⟨?_,(decide_eq_true hph).symm,rfl,?_,Int.le_refl _,fun hx => ?_,.inr ⟨rfl,Int.le_refl _⟩,fun _ => rfl⟩⟩,fun e he hk => ?_,fun hx => ?_,fun _ => ?_,fun _ => ?_,short_snoc h.short (Nat.zero_le _)⟩
 ·show chk (d.log ++ [entF (upS (endF d L')) 1 []]) = _
  rw [chk_snoc,hc.eq]
  unfold chkS
  simp only []
  rw [if_neg (show ¬ (entF (upS (endF d L')) 1 []).kind = 5 from by show ¬ (1:Int) = 5; decide),if_pos (show (entF (upS (endF d L')) 1 []).kind = 1 from rfl)]
  have e1:(entF (upS (endF d L')) 1 []).boot = d.end_.own:=h.boot
  have e2:(entF (upS (endF d L')) 1 []).mine = d.end_.token:=hs.token
  have e3:(entF (upS (endF d L')) 1 []).peer = b:=by show (if L'.known = true then L'.boot else 0) = b; rw [if_pos hkn,hB]
  have e4:(entF (upS (endF d L')) 1 []).yours = y:=by show (if L'.known = true then L'.yours else 0) = y; rw [if_pos hkn,hY]
  rw [if_neg,hek]
  rw [e1,e2,e3,e4,hu]
  have:=hc.boot
  rintro (hx | hx | hx | hx | hx | hx | hx)
  ·exact absurd hx (by decide)
  ·exact hx this.symm
  ·omega
  ·omega
  ·omega
  ·omega
  ·omega
 ·show 0 ≤ L'.token
  exact hf.ok.token.1
 ·have hx':L'.phase = 1:=hx
  omega
 ·show _ < L'.own ∨ _ = L'.own ∧ _ ≤ L'.token ∧ (L'.phase = 1 → _)
  rcases List.mem_append.1 he with he | he
  ·rw [hs.own,hs.token]
   rcases h.fresh e he hk with hx | hx
   ·exact .inl hx
   ·exact .inr ⟨hx.1,hx.2.1,fun hx => by omega⟩
  ·rw [List.mem_singleton.1 he] at hk
   exact absurd hk (by show ¬ ((1:Int) = 3 ∨ (1:Int) = 4); decide)
 ·have hx':L'.phase = 1:=hx
  omega
 ·show L'.expected = sn (ofK 4 (d.log ++ [entF (upS (endF d L')) 1 []]) (keyL L')).length
  rw [ofK_no (show (1:Int) ≠ 4 by decide),hemp 4 (.inr rfl),hs.expected]
  exact (h.init h1).1
 ·show ∃ m,m ≤ (ofK 3 (d.log ++ [entF (upS (endF d L')) 1 []]) (keyL L')).length ∧ L'.queue = (ofK 3 (d.log ++ [entF (upS (endF d L')) 1 []]) (keyL L')).drop m ∧ L'.base = sn m
  rw [ofK_no (show (1:Int) ≠ 3 by decide),hemp 3 (.inl rfl),hs.queue,hs.base]
  exact ⟨0,Nat.le_refl _,hq0,(h.init h1).2⟩
theorem SideI.reboot {d:Sd} {N:Nat} (h:SideI d N) (hm:d.boot ≠ 4294967295):SideI (rebootS d) (N + 1):=by
 obtain ⟨up,K,hc⟩:=h.told
 have ho:=h.fine.ok.own
 have hb:=h.boot
 have hf:(newL (d.boot + 1)).Fine:=new_fine (by omega)
 unfold rebootS
 rw [if_neg hm]
 refine ⟨hf,rfl,fun h2 => absurd (show (0:Int) = 2 from h2) (by decide),len_snoc h.len,⟨false,(d.boot + 1,0,0,0),⟨?_,rfl,rfl,Int.le_refl _,Int.le_refl _,fun h1 => absurd (show (0:Int) = 1 from h1) (by decide),.inr ⟨rfl,Int.le_refl _⟩,fun h2 => absurd (show (0:Int) = 2 from h2) (by decide)⟩⟩,fun e he hk => ?_,fun h1 => absurd (show (0:Int) = 1 from h1) (by decide),fun h2 => absurd (show (0:Int) = 2 from h2) (by decide),fun h2 => absurd (show (0:Int) = 2 from h2) (by decide),short_snoc h.short (Nat.zero_le _)⟩
 ·show chk (d.log ++ [_]) = _
  rw [chk_snoc,hc.eq]
  unfold chkS
  simp only []
  rw [if_pos trivial,if_pos]
  rw [hc.boot,← hb]
 ·show _ < d.boot + 1 ∨ _ = d.boot + 1 ∧ _
  rcases List.mem_append.1 he with he | he
  ·rcases h.fresh e he hk with hx | hx
   ·left; omega
   ·left; omega
  ·rw [List.mem_singleton.1 he] at hk
   exact absurd hk (by show ¬ ((5:Int) = 3 ∨ (5:Int) = 4); decide)
end Go.Proofs.Ytnkkgofpifhoeaa.Pr
end
section
namespace Go.Proofs.Ytnkkgofpifhoeaa.Pr
open Go.Proofs.Ytnkkgofpifhoeaa.Lk
structure FlI (X:Pr) (f:Fl):Prop where
 dst:f.dst = 0 ∨ f.dst = 1
 good:f.p.Good
 boot:0 < f.boot ∧ f.boot < 4294967296
 data:f.p.kind = 2 → ∃ j:Nat,(ofK 3 (X.sd (1 - f.dst.toNat)).log (f.boot,f.p.mine,f.p.boot,f.p.yours))[j]? = some f.p.body ∧ f.p.seq = sn j
structure PInv (X:Pr) (N:Nat):Prop where
 side:∀ s,s < 2 → SideI (X.sd s) N
 says:∀ s,s < 2 → SaysAll (X.sd s).end_
 way:X.way.length ≤ 1024
 fl:∀ f ∈ X.way,FlI X f
 pref:∀ s,s < 2 → ∀ K,ofK 4 (X.sd s).log K <+: ofK 3 (X.sd (1 - s)).log (mir K)
structure Inv (X:Pr) (N:Nat):Prop where
 p:PInv X N
 out:∀ s,s < 2 → (X.sd s).end_.out = []
theorem FlI.set_ {X:Pr} {f:Fl} (h:FlI X f) {s:Nat} {d:Sd} (hl:∃ es,d.log = (X.sd s).log ++ es):FlI (X.set s d) f:=by
 refine ⟨h.dst,h.good,h.boot,fun hk => ?_⟩
 obtain ⟨j,hj,hs⟩:=h.data hk
 refine ⟨j,?_,hs⟩
 by_cases ht:1 - f.dst.toNat = s
 ·rw [ht] at hj ⊢
  rw [Pr.set_eq]
  obtain ⟨es,he⟩:=hl
  have hlt:=(List.getElem?_eq_some_iff.1 hj).1
  rw [he,ofK_append,List.getElem?_append_left hlt]
  exact hj
 ·rw [Pr.set_ne X ht]; exact hj
theorem PInv.set_ {X:Pr} {N M:Nat} (h:PInv X N) {s:Nat} (hs:s < 2) {d:Sd} (hd:SideI d M) (hM:N ≤ M) (hsay:SaysAll d.end_) (hlog:∃ es,d.log = (X.sd s).log ++ es) (hg:∀ K,ofK 4 d.log K <+: ofK 3 (X.sd (1 - s)).log (mir K)):PInv (X.set s d) M:=by
 refine ⟨fun t ht => ?_,fun t ht => ?_,h.way,fun f hf => (h.fl f hf).set_ hlog,fun t ht K => ?_⟩
 ·by_cases hts:t = s
  ·subst hts; rw [Pr.set_eq]; exact hd
  ·rw [Pr.set_ne X hts]; exact (h.side t ht).more hM
 ·by_cases hts:t = s
  ·subst hts; rw [Pr.set_eq]; exact hsay
  ·rw [Pr.set_ne X hts]; exact h.says t ht
 ·by_cases hts:t = s
  ·subst hts
   rw [Pr.set_eq,Pr.set_ne X (show 1 - t ≠ t by omega)]
   exact hg K
  ·rw [Pr.set_ne X hts,show 1 - t = s by omega,Pr.set_eq]
   have hp:=h.pref t ht K
   rw [show 1 - t = s by omega] at hp
   obtain ⟨es,he⟩:=hlog
   rw [he,ofK_append]
   exact hp.trans (List.prefix_append _ _)
theorem PInv.ways {X:Pr} {N:Nat} (h:PInv X N) {ws:List Fl} (hw:∀ f ∈ ws,FlI X f) (hl:ws.length ≤ 1024):PInv { X with way:=ws } N :=
 ⟨h.side,h.says,hl,fun f hf => ⟨(hw f hf).dst,(hw f hf).good,(hw f hf).boot,(hw f hf).data⟩,h.pref⟩
theorem PInv.more {X:Pr} {N M:Nat} (h:PInv X N) (hM:N ≤ M):PInv X M:=⟨fun s hs => (h.side s hs).more hM,h.says,h.way,h.fl,h.pref⟩
theorem PInv.put {X:Pr} {N:Nat} (h:PInv X N) {f:Fl} (hf:FlI X f):PInv (putX X f) N:=by
 unfold putX
 split
 ·refine h.ways (fun g hg => ?_) (by rw [List.length_append]; simp only [List.length_singleton]; omega)
  rcases List.mem_append.1 hg with hg | hg
  ·exact h.fl g hg
  ·rw [List.mem_singleton.1 hg]; exact hf
 ·exact h
theorem FlI.sd {X Y:Pr} {f:Fl} (h:FlI X f) (hs:Y.sd = X.sd):FlI Y f:=⟨h.dst,h.good,h.boot,fun hk => by rw [hs]; exact h.data hk⟩
theorem says_fl {X:Pr} {N s:Nat} (hs:s < 2) (h:SideI (X.sd s) N) {p:Pkt} (hp:Says (X.sd s).end_ p):FlI X ⟨1 - (s:Int),(X.sd s).boot,p⟩:=by
 have hb:=h.boot
 have ho:=h.fine.own
 have ho2:=h.fine.ok.own
 have hd:(1 - (1 - (s:Int)).toNat) = s:=by omega
 refine ⟨by show 1 - (s:Int) = 0 ∨ 1 - (s:Int) = 1; omega,?_,by show 0 < (X.sd s).boot ∧ (X.sd s).boot < _; omega,fun hk => ?_⟩
 ·rcases hp with hp | hp | hp
  ·rw [hp.1]; exact hello_good h.fine hp.2
  ·obtain ⟨h2,i,hi,hp⟩:=hp
   rw [hp]; exact data_good h.fine h2 i (by omega) (by omega)
  ·rw [hp.2]; exact ack_good h.fine hp.1
 ·rcases hp with hp | hp | hp
  ·exact absurd (show (1:Int) = 2 by rw [hp.1] at hk; exact hk) (by decide)
  ·obtain ⟨h2,i,hi,hp⟩:=hp
   obtain ⟨m,hm,hq,hbs⟩:=h.sent h2
   subst hp
   show ∃ j:Nat,(ofK 3 (X.sd (1 - (1 - (s:Int)).toNat)).log ((X.sd s).boot,(X.sd s).end_.token,(X.sd s).end_.boot,(X.sd s).end_.yours))[j]? = some ((X.sd s).end_.queue.getD (i:Int).toNat []) ∧ IntKind.u32.wrap ((X.sd s).end_.base + IntKind.u32.wrap (i:Int)) = sn j
   rw [hd,hb,hbs,sn_addw]
   refine ⟨m + i,?_,rfl⟩
   rw [Int.toNat_natCast,List.getD_eq_getElem?_getD,List.getElem?_eq_getElem hi]
   have hx:(X.sd s).end_.queue[i]? = some ((X.sd s).end_.queue[i]):=List.getElem?_eq_getElem hi
   rw [show (X.sd s).end_.queue[i]? = ((ofK 3 (X.sd s).log (keyL (X.sd s).end_)).drop m)[i]? from congrArg (·[i]?) hq,List.getElem?_drop] at hx
   exact hx
  ·exact absurd (show (3:Int) = 2 by rw [hp.2] at hk; exact hk) (by decide)
theorem putsX_sd' (s b:Int) (ps:List Pkt):∀ X:Pr,(putsX X s b ps).sd = X.sd:=by
 induction ps with
 | nil => exact fun _ => rfl
 | cons p ps ih => exact fun X => (ih (putX X ⟨1 - s,b,p⟩)).trans (putX_sd X _)
theorem PInv.puts {N:Nat} {s b:Int} (ps:List Pkt):∀ {X:Pr},PInv X N → (∀ p ∈ ps,FlI X ⟨1 - s,b,p⟩) → PInv (putsX X s b ps) N:=by
 induction ps with
 | nil => exact fun h _ => h
 | cons p ps ih =>
  intro X h hp
  exact ih (h.put (hp p List.mem_cons_self)) (fun q hq => (hp q (List.mem_cons_of_mem _ hq)).sd (putX_sd X _))
theorem out_same (L:Lk):Same L (outL L):=⟨rfl,rfl,rfl,rfl,rfl,rfl,rfl,rfl,rfl⟩
theorem pump_sd (X:Pr) (s t:Nat):(pumpX X s).sd t = if t = s then endF (X.sd s) (outL (X.sd s).end_) else X.sd t:=by
 unfold pumpX
 rw [putsX_sd']
 rfl
theorem PInv.pump {X:Pr} {N:Nat} (h:PInv X N) {s:Nat} (hs:s < 2):PInv (pumpX X s) N:=by
 have hd:=(h.side s hs).same (d':=endF (X.sd s) (outL (X.sd s).end_)) rfl rfl rfl (out_same _) (out_fine (h.side s hs).fine)
 have h1:PInv (X.set s (endF (X.sd s) (outL (X.sd s).end_))) N:=h.set_ hs hd (Nat.le_refl _) (fun p hp => by cases hp) ⟨[],by simp [endF]⟩ (h.pref s hs)
 unfold pumpX
 refine PInv.puts _ h1 (fun p hp => ?_)
 exact (says_fl hs (h.side s hs) (h.says s hs p hp)).set_ ⟨[],by simp [endF]⟩
theorem age_ge {L:Lk} {b m:Int} (h:ageF L b m ≠ -1):L.boot < b ∨ L.boot = b ∧ L.yours ≤ m:=by
 unfold ageF at h
 split at h
 ·exact absurd rfl h
 ·split at h
  ·split at h
   ·exact absurd rfl h
   ·right; omega
  ·left; omega
theorem age_zero {L:Lk} {b m:Int} (h:ageF L b m = 0):b = L.boot ∧ m = L.yours:=by
 unfold ageF at h
 split at h
 ·exact absurd h (by decide)
 ·split at h
  ·split at h
   ·exact absurd h (by decide)
   ·split at h
    ·constructor <;> assumption
    ·exact absurd h (by decide)
  ·exact absurd h (by decide)
theorem meant_iff {L:Lk} {p:Pkt} (h:meantF L p = true):p.boot = L.own ∧ p.yours = L.token:=by unfold meantF at h; exact of_decide_eq_true h
theorem prefix_snoc {G S:List (List Int)} {b:List Int} (h:G <+: S) (hb:S[G.length]? = some b):G ++ [b] <+: S:=by
 obtain ⟨t,ht⟩:=h
 subst ht
 rw [List.getElem?_append_right (Nat.le_refl _),Nat.sub_self] at hb
 cases t with
 | nil => cases hb
 | cons c t =>
  have:c = b:=by simpa using hb
  subst this
  exact ⟨t,by simp⟩
theorem pref_no {X:Pr} {N s:Nat} (h:PInv X N) (hs:s < 2) {l:List Ent} {e:Ent} (hl:l = (X.sd s).log ++ [e]) (he:e.kind ≠ 4):∀ K,ofK 4 l K <+: ofK 3 (X.sd (1 - s)).log (mir K):=fun K => by
 rw [hl,ofK_no he]; exact h.pref s hs K
theorem endF_self (d:Sd):endF d d.end_ = d:=rfl
theorem set_self (X:Pr) (s:Nat):X.set s (X.sd s) = X:=by
 unfold Pr.set
 congr 1
 funext t
 by_cases h:t = s
 ·subst h; simp
 ·simp [h]
theorem badA_side {X:Pr} {a:Act} (h:badA X a = 0):(1 ≤ a.kind ∧ a.kind ≤ 8) ∧ (a.kind < 6 → a.side = 0 ∨ a.side = 1) ∧ (6 ≤ a.kind → 0 ≤ a.i ∧ a.i.toNat < X.way.length):=by
 unfold badA at h
 split at h
 ·exact absurd h (by decide)
 split at h
 ·exact absurd h (by decide)
 split at h
 ·exact absurd h (by decide)
 ·omega
theorem take_inv {X:Pr} {N:Nat} (h:Inv X N) (hN:N < 4294967295) {f:Fl} (hf:FlI X f) :
  SideI (takeS (X.sd f.dst.toNat) (takeF (X.sd f.dst.toNat).end_ f.boot f.p)) (N + 1) ∧ SaysAll (takeS (X.sd f.dst.toNat) (takeF (X.sd f.dst.toNat).end_ f.boot f.p)).end_ ∧
   (∃ es,(takeS (X.sd f.dst.toNat) (takeF (X.sd f.dst.toNat).end_ f.boot f.p)).log = (X.sd f.dst.toNat).log ++ es) ∧ (∀ K,ofK 4 (takeS (X.sd f.dst.toNat) (takeF (X.sd f.dst.toNat).end_ f.boot f.p)).log K <+: ofK 3 (X.sd (1 - f.dst.toNat)).log (mir K)):=by
 have hs:f.dst.toNat < 2:=by have:=hf.dst; omega
 generalize hst:f.dst.toNat = s at *
 have hd:=h.p.side s hs
 have hpr:=h.p.pref s hs
 have ho:=h.out s hs
 have hoth:=h.p.side (1 - s) (by omega)
 have hgc:=good_cases hf.good
 have hfine:=take_fine hd.fine hf.boot hf.good
 have hdata:=hf.data
 rw [hst] at hdata
 obtain ⟨hc,hsay⟩:=take_turn hd.fine.ok ho f.boot f.p
 generalize hL:(takeF (X.sd s).end_ f.boot f.p).1 = L' at *
 generalize hT:(takeF (X.sd s).end_ f.boot f.p).2 = t at *
 have hx:takeF (X.sd s).end_ f.boot f.p = (L',t):=by rw [← hL,← hT]
 rw [hx]
 generalize hdd:X.sd s = d at *
 have hone:∀ (e:Ent) (d':Sd),d'.log = d.log → (∃ es,(noteF d' e.kind e.body).log = d.log ++ es):=fun e d' he => ⟨[entF d' e.kind e.body],by show d'.log ++ _ = _; rw [he]⟩
 cases hc with
 | @none hd0 _ =>
  have e1:takeS d (d.end_,⟨hd0,false,false,[]⟩) = d:=by unfold takeS; rfl
  rw [e1]
  exact ⟨hd.more (Nat.le_succ _),hsay,⟨[],by simp⟩,hpr⟩
 | up h1 hk ha hm hss hy =>
  have e1:takeS d (L',⟨true,true,false,[]⟩) = noteF (upS (endF d L')) 1 []:=by unfold takeS; rfl
  rw [e1]
  exact ⟨hd.up h1 hss hfine (age_ge ha) hf.boot.1 hgc.1,hsay,⟨[_],rfl⟩,fun K => by
   show ofK 4 (d.log ++ [entF (upS (endF d L')) 1 []]) K <+: _
   rw [ofK_no (show (1:Int) ≠ 4 by decide)]; exact hpr K⟩
 | learn h1 hk ha hm hss hy =>
  have e1:takeS d (L',⟨true,false,false,[]⟩) = endF d L':=by unfold takeS; rfl
  rw [e1]
  exact ⟨hd.learn h1 hss hfine (age_ge ha),hsay,⟨[],by simp [endF]⟩,hpr⟩
 | again h2 hk ha h0 hss hy =>
  have e1:takeS d (L',⟨true,false,false,[]⟩) = endF d L':=by unfold takeS; rfl
  rw [e1]
  exact ⟨(hd.same (d':=endF d L') rfl rfl rfl hss hfine).more (Nat.le_succ _),hsay,⟨[],by simp [endF]⟩,hpr⟩
 | last h2 hk ha ht =>
  have e1:takeS d (shut_ d.end_,⟨true,false,true,[]⟩) = noteF (endF d (shut_ d.end_)) 2 []:=by unfold takeS; rfl
  rw [e1]
  have hl:=hd.leave (L':=shut_ d.end_) hfine (show (0:Int) ≠ 2 by decide) rfl (Int.le_refl _) (fun hx => absurd (show (0:Int) = 1 from hx) (by decide)) (.inr ⟨rfl,Int.le_refl _⟩) (fun hx => absurd (show (0:Int) = 1 from hx) (by decide))
  rw [if_pos h2] at hl
  exact ⟨hl,hsay,⟨[_],rfl⟩,fun K => by
   show ofK 4 (d.log ++ [entF (endF d (shut_ d.end_)) 2 []]) K <+: _
   rw [ofK_no (show (2:Int) ≠ 4 by decide)]; exact hpr K⟩
 | anew h2 hk ha ht hss hy =>
  have e1:takeS d (L',⟨true,false,true,[]⟩) = noteF (endF d L') 2 []:=by unfold takeS; rfl
  rw [e1]
  have hph:L'.phase = 1:=hss.phase
  have htk:L'.token = d.end_.token + 1:=hss.token
  have hbt:L'.boot = f.boot:=hss.boot
  have hyr:L'.yours = f.p.mine:=hss.yours
  have hl:=hd.leave (L':=L') hfine (by omega) hss.own (by omega) (fun _ => by omega) (by rw [hbt,hyr]; exact age_ge (by omega)) (fun _ => ⟨by rw [hss.expected,sn0]; rfl,by rw [hss.base,sn0]; rfl⟩)
  rw [if_pos h2] at hl
  exact ⟨hl,hsay,⟨[_],rfl⟩,fun K => by
   show ofK 4 (d.log ++ [entF (endF d L') 2 []]) K <+: _
   rw [ofK_no (show (2:Int) ≠ 4 by decide)]; exact hpr K⟩
 | signal h2 hk ha hm k hkk hxx hy =>
  have hsn:=hd.fine.ok.sent
  have hkq:k ≤ d.end_.queue.length:=by omega
  have haz:=age_zero ha
  have hmz:=meant_iff hm
  by_cases hg:f.p.kind = 2 ∧ f.p.seq = d.end_.expected
  ·have hb:upB d.end_ f.p = f.p.body:=by unfold upB; rw [if_pos hg]
   have hpos:=hgc.2 hg.1
   have e1:takeS d (L',⟨true,false,false,upB d.end_ f.p⟩) = noteF (endF d L') 4 f.p.body:=by
    unfold takeS
    rw [if_neg (show ¬ false = true by decide),if_neg (show ¬ false = true by decide),hb,if_pos hpos]
   rw [e1]
   refine ⟨hd.got_ h2 k hkq hxx hfine hg f.p.body hf.good.len,hsay,⟨[_],rfl⟩,fun K => ?_⟩
   show ofK 4 (d.log ++ [entF (endF d L') 4 f.p.body]) K <+: _
   have hek:keyE (entF (endF d L') 4 f.p.body) = keyL d.end_:=entF_key2 hd h2 4 _
   by_cases hK:keyE (entF (endF d L') 4 f.p.body) = K
   ·rw [ofK_yes (show (entF (endF d L') 4 f.p.body).kind = 4 from rfl) hK]
    refine prefix_snoc (hpr K) ?_
    obtain ⟨j,hj,hsq⟩:=hdata hg.1
    have hKK:K = keyL d.end_:=hK.symm.trans hek
    have hmir:mir K = (f.boot,f.p.mine,f.p.boot,f.p.yours):=by rw [hKK,haz.1,haz.2,hmz.1,hmz.2]; rfl
    rw [hmir]
    have hexp:=hd.got h2
    rw [← hg.2,hsq,← hKK] at hexp
    have hjl:=(List.getElem?_eq_some_iff.1 hj).1
    have hl1:=ofK_len 3 (X.sd (1 - s)).log (f.boot,f.p.mine,f.p.boot,f.p.yours)
    have hl2:=hoth.len
    have hl3:=ofK_len 4 d.log K
    have hl4:=hd.len
    have hji:j = (ofK 4 d.log K).length:=sn_inj (by omega) (by omega) hexp
    rw [← hji]
    exact hj
   ·rw [ofK_ne hK]; exact hpr K
  ·have hb:upB d.end_ f.p = []:=by unfold upB; rw [if_neg hg]
   have e1:takeS d (L',⟨true,false,false,upB d.end_ f.p⟩) = endF d L':=by
    unfold takeS
    rw [if_neg (show ¬ false = true by decide),if_neg (show ¬ false = true by decide),hb,if_neg (by simp)]
   rw [e1]
   exact ⟨hd.signal h2 k hkq hxx hfine hg,hsay,⟨[],by simp [endF]⟩,hpr⟩
theorem eraseIdx_mem {l:List Fl} {i:Nat} {f:Fl} (h:f ∈ l.eraseIdx i):f ∈ l:=List.mem_of_mem_eraseIdx h
theorem act_inv {X:Pr} {N:Nat} (h:Inv X N) (hN:N < 4294967295) {a:Act} (hb:badA X a = 0):PInv (actX X a) (N + 1):=by
 obtain ⟨hk,hsd,hi⟩:=badA_side hb
 unfold actX
 have hside:a.kind < 6 → a.side.toNat < 2:=fun h => by have:=hsd h; omega
 split
 ·rename_i h1
  have hs:=hside (by omega)
  generalize a.side.toNat = s at *
  have hd:=h.p.side s hs
  have ho:=h.out s hs
  by_cases hE:openE (X.sd s).end_ = 0
  ·obtain ⟨h0,ht,hss,hsay⟩:=open_turn ho hE
   have hl:=hd.leave (L':=openL (X.sd s).end_) (open_fine hd.fine) (by have:(openL (X.sd s).end_).phase = 1:=hss.phase; omega) hss.own (by have:(openL (X.sd s).end_).token = (X.sd s).end_.token + 1:=hss.token; omega)
    (fun _ => by have:(openL (X.sd s).end_).token = (X.sd s).end_.token + 1:=hss.token; omega) (.inr ⟨hss.boot.symm,by rw [hss.yours]; exact Int.le_refl _⟩) (fun _ => ⟨by rw [hss.expected,sn0]; rfl,by rw [hss.base,sn0]; rfl⟩)
   rw [if_neg (by omega)] at hl
   exact h.p.set_ hs hl (Nat.le_succ _) hsay ⟨[],by simp [endF]⟩ (h.p.pref s hs)
  ·rw [open_no hE,endF_self,set_self]; exact h.p.more (Nat.le_succ _)
 split
 ·rename_i h1
  have hs:=hside (by omega)
  generalize a.side.toNat = s at *
  have hd:=h.p.side s hs
  have hl:=hd.leave (L':=shut_ (X.sd s).end_) (shut_fine hd.fine) (show (0:Int) ≠ 2 by decide) rfl (Int.le_refl _) (fun hx => absurd (show (0:Int) = 1 from hx) (by decide)) (.inr ⟨rfl,Int.le_refl _⟩) (fun hx => absurd (show (0:Int) = 1 from hx) (by decide))
  have hsay:SaysAll (shut_ (X.sd s).end_):=says_nil (h.out s hs)
  unfold shutS
  by_cases h2:(X.sd s).end_.phase = 2
  ·rw [if_pos h2] at hl ⊢
   exact h.p.set_ hs hl (Nat.le_succ _) hsay ⟨[_],rfl⟩ (pref_no h.p hs rfl (show (2:Int) ≠ 4 by decide))
  ·rw [if_neg h2] at hl ⊢
   exact h.p.set_ hs hl (Nat.le_succ _) hsay ⟨[],by simp [endF]⟩ (h.p.pref s hs)
 split
 ·rename_i h1
  have hs:=hside (by omega)
  generalize a.side.toNat = s at *
  have hd:=h.p.side s hs
  unfold sendS
  by_cases hE:sendE (X.sd s).end_ a.body.length = 0
  ·rw [if_pos hE]
   obtain ⟨h2,_,hbl,_,hss,hsay⟩:=send_turn hd.fine.ok (h.out s hs) a.body hE
   exact h.p.set_ hs (hd.send h2 a.body hss (sendL_fine hd.fine a.body) hbl) (Nat.le_succ _) hsay ⟨[_],rfl⟩ (pref_no h.p hs rfl (show (3:Int) ≠ 4 by decide))
  ·rw [if_neg hE,send_no hE,endF_self,set_self]; exact h.p.more (Nat.le_succ _)
 split
 ·rename_i h1
  have hs:=hside (by omega)
  generalize a.side.toNat = s at *
  have hd:=h.p.side s hs
  obtain ⟨hss,hsay⟩:=tick_turn hd.fine.ok (h.out s hs) hd.fine.idleq
  exact h.p.set_ hs ((hd.same (d':=endF (X.sd s) (tick_ (X.sd s).end_)) rfl rfl rfl hss (tick_fine hd.fine)).more (Nat.le_succ _)) (Nat.le_succ _) hsay ⟨[],by simp [endF]⟩ (h.p.pref s hs)
 split
 ·rename_i h1
  have hs:=hside (by omega)
  generalize a.side.toNat = s at *
  have hd:=h.p.side s hs
  by_cases hm:(X.sd s).boot = 4294967295
  ·have e1:rebootS (X.sd s) = X.sd s:=if_pos hm
   rw [e1,set_self]; exact h.p.more (Nat.le_succ _)
  ·have hr:=hd.reboot hm
   have e1:rebootS (X.sd s) = { X.sd s with boot:=(X.sd s).boot + 1,end_:=newL ((X.sd s).boot + 1),log:=(X.sd s).log ++ [⟨5,(X.sd s).boot + 1,0,0,0,[]⟩] }:=if_neg hm
   have hlog:(rebootS (X.sd s)).log = (X.sd s).log ++ [⟨5,(X.sd s).boot + 1,0,0,0,[]⟩]:=by rw [e1]
   exact h.p.set_ hs hr (Nat.le_succ _) (by rw [e1]; exact says_nil rfl) ⟨[_],hlog⟩ (pref_no h.p hs hlog (show (5:Int) ≠ 4 by decide))
 split
 ·rename_i h6
  obtain ⟨hi0,hil⟩:=hi (by omega)
  have hmem:X.way.getD a.i.toNat nilF ∈ X.way:=by
   rw [List.getD_eq_getElem?_getD,List.getElem?_eq_getElem hil]
   exact List.getElem_mem hil
  have hf:=h.p.fl _ hmem
  unfold deliverX
  generalize X.way.getD a.i.toNat nilF = f at *
  obtain ⟨t1,t2,t3,t4⟩:=take_inv h hN hf
  have h1:PInv ({ X with way:=X.way.eraseIdx a.i.toNat }:Pr) N:=h.p.ways (fun g hg => h.p.fl g (eraseIdx_mem hg)) (Nat.le_trans (List.length_eraseIdx_le _ _) h.p.way)
  exact h1.set_ (by have:=hf.dst; omega) t1 (Nat.le_succ _) t2 t3 t4
 split
 ·exact (h.p.ways (fun g hg => h.p.fl g (eraseIdx_mem hg)) (Nat.le_trans (List.length_eraseIdx_le _ _) h.p.way)).more (Nat.le_succ _)
 ·obtain ⟨hi0,hil⟩:=hi (by omega)
  have hmem:X.way.getD a.i.toNat nilF ∈ X.way:=by
   rw [List.getD_eq_getElem?_getD,List.getElem?_eq_getElem hil]
   exact List.getElem_mem hil
  exact (h.p.put (h.p.fl _ hmem)).more (Nat.le_succ _)
theorem do_inv {X:Pr} {N:Nat} (h:Inv X N) (hN:N < 4294967295) (a:Act):Inv (doX X a) (N + 1):=by
 unfold doX
 split
 ·rename_i hb
  have h1:=((act_inv h hN hb).pump (s:=0) (by decide)).pump (s:=1) (by decide)
  refine ⟨h1,fun s hs => ?_⟩
  have h0:s = 0 ∨ s = 1:=by omega
  rcases h0 with rfl | rfl
  ·rw [pump_sd,if_neg (by decide),pump_sd,if_pos rfl]; rfl
  ·rw [pump_sd,if_pos rfl]; rfl
 ·exact ⟨h.p.more (Nat.le_succ _),h.out⟩
theorem new_inv:Inv newX 0:=by
 have hf:(newL 1).Fine:=new_fine (by decide)
 refine ⟨⟨fun s hs => ⟨hf,rfl,fun h2 => absurd (show (0:Int) = 2 from h2) (by decide),Nat.le_refl _,⟨false,(1,0,0,0),⟨rfl,rfl,rfl,Int.le_refl _,Int.le_refl _,fun h1 => absurd (show (0:Int) = 1 from h1) (by decide),.inr ⟨rfl,Int.le_refl _⟩,fun h2 => absurd (show (0:Int) = 2 from h2) (by decide)⟩⟩,fun e he => (by cases he),
  fun h1 => absurd (show (0:Int) = 1 from h1) (by decide),fun h2 => absurd (show (0:Int) = 2 from h2) (by decide),fun h2 => absurd (show (0:Int) = 2 from h2) (by decide),fun e he => (by cases he)⟩,fun s hs p hp => (by cases hp),Nat.zero_le _,fun f hf => (by cases hf),fun s hs K => ⟨[],rfl⟩⟩,fun s hs => rfl⟩
theorem run_inv (l:List Act):∀ {X:Pr} {N:Nat},Inv X N → N + l.length < 4294967295 → Inv (runX X l) (N + l.length):=by
 induction l with
 | nil => exact fun h _ => h
 | cons a l ih =>
  intro X N h hN
  have:=ih (do_inv h (by simp at hN; omega) a) (by simp at hN ⊢; omega)
  rw [show N + 1 + l.length = N + (a :: l).length by simp; omega] at this
  exact this
end Go.Proofs.Ytnkkgofpifhoeaa.Pr
end
section
namespace Go.Proofs.Ytnkkgofpifhoeaa.Pr
open Go.RowKit Go.Proofs.Ytnkkgofpifhoeaa.Base Go.Proofs.Ytnkkgofpifhoeaa.Steps Go.Proofs.Ytnkkgofpifhoeaa.Lk Go.Proofs.Ytnkkgofpifhoeaa.Win Go.Proofs.YtnkkgofpifhoeaaW.PrintWords Go.Proofs.YtnkkgofpifhoeaaW.PrintLast
theorem Moves.then' {w w2 w3:World} {B gp:Nat} {ge:Nat → Nat} {own:Nat → Nat → Prop} {X Y:Pr} {lv:Nat → Value} {wv:Value} {T:Nat → Prop} (h:PAt w B gp ge own X lv wv) (hb:Below w.heap.size w w2) (hm:Moves w2 B gp ge own Y (fun k => k = gp ∨ own 5 k ∧ T k) w3):Moves w B gp ge own Y (fun k => k = gp ∨ own 5 k) w3:=by
 obtain ⟨o,l,v,h1,h2,h3,h4⟩:=hm
 exact ⟨o,l,v,h1,(Grew.refl _ _).trans hb.size h2,(Kept.of_below hb _).then_ h3 (fun k hk => .inl (hk.elim .inl (fun x => .inr x.1))),(hb.mono h.hB).trans h4⟩
set_option maxRecDepth 100000 in
set_option maxHeartbeats 2000000 in
theorem twin_p {w:World} {B gp:Nat} {ge:Nat → Nat} {own:Nat → Nat → Prop} {X:Pr} {lv:Nat → Value} {wv:Value} (h:PAt w B gp ge own X lv wv) (i:Nat) (hi:i < X.way.length) (hlw:X.way.length ≤ 1024) (kind side:Int) (vb:Value) :
  Calls Try.prog 114 #[.pointer (some ⟨gp,0,none⟩),.agg #[.int .i64 kind,.int .i64 side,.int .i64 (i:Int),vb]] w fun e w' => e = .returned (.int .i64 0) ∧ Moves w B gp ge own (putX X (X.way.getD i nilF)) (fun k => k = gp ∨ own 5 k) w':=by
 obtain ⟨g,off,cw,cs,hv,hcl,hM,hg,hcell⟩:=h.way.elem nilF i hi
 subst hv
 obtain ⟨b,hcs,hR⟩:=fly_M.1 hM
 subst hcs
 generalize X.way.getD i nilF = f at *
 have hba:Below w.heap.size w (w.alloc (.cells #[.int .i64 kind,.int .i64 side,.int .i64 (i:Int),vb] 72)):=(Below.refl _ _).alloc (Nat.le_refl _) _
 have H:=Lib.hid h
 have HM:=Lib.hid hM
 have HL:=Lib.hid hlw
 have hbd:=bl_drew hba
 have hra:(w.alloc (.cells #[.int .i64 kind,.int .i64 side,.int .i64 (i:Int),vb] 72)).drew.rangeAt g (off + i * 12) (fcells f b):=fun j u hu => cell_kept (hcell j u hu) (Kept.of_below hbd (fun _ => False)) (fun x => x)
 have hx1:=(h.sub hbd).blk
 clear hcl hM hR hcell hg hlw
 generalize hwl:X.way.length = n at *
 have HWL:=Lib.hid hwl
 clear hwl
 have hSS:(w.alloc (.cells #[.int .i64 kind,.int .i64 side,.int .i64 (i:Int),vb] 72)).drew.heap[gp]? = some (.cells (prow X ge lv (.slice (some ⟨g,off,none⟩) n cw)) 143 (0,0)) ∧ (w.alloc (.cells #[.int .i64 kind,.int .i64 side,.int .i64 (i:Int),vb] 72)).drew.heap[w.heap.size]? = some (.cells #[.int .i64 kind,.int .i64 side,.int .i64 (i:Int),vb] 72 (0,0)) ∧ (w.alloc (.cells #[.int .i64 kind,.int .i64 side,.int .i64 (i:Int),vb] 72)).drew.rangeAt g (off + i * 12) (fcells f b):=⟨hx1,heap_alloc_new w _,hra⟩
 have HSS:=Lib.hid hSS
 have HBD0:=Lib.hid hbd
 have HI:=Lib.hid hi
 clear h hba hbd hSS hra hx1 hi
 go_enter Try.func114,Try.ntmps114
 go_wp2_with fail
 have hSS:=HSS.out
 have hbd:=HBD0.out
 clear HSS HBD0
 refine start_ (n:=10) (S:=fun w' => w'.heap[gp]? = some (.cells (prow X ge lv (.slice (some ⟨g,off,none⟩) n cw)) 143 (0,0)) ∧ w'.heap[w.heap.size]? = some (.cells #[.int .i64 kind,.int .i64 side,.int .i64 (i:Int),vb] 72 (0,0)) ∧ w'.rangeAt g (off + i * 12) (fcells f b)) (ds:=[9]) M1W (by kernel_rfl) rfl rfl (hSS) (fun hHeld => ?_)
 generalize (w.alloc (.cells #[.int .i64 kind,.int .i64 side,.int .i64 (i:Int),vb] 72)).drew = w2 at hbd hHeld ⊢
 have HBD:=Lib.hid hbd
 clear hbd
 refine pure_ (i:=0) (N:=some 5) (v:=?_) (a':=?_) M21 rfl rfl (by kernel_rfl) (fun _ _ _ h => h) (Or.inl ⟨by rfl,?_⟩) ?_ ?_
 rotate_left
 ·intro w'
  go_simp
  with_reducible rfl
 rotate_left
 ·simp only [Act.put,sA,sZ,sS]
  rfl
 refine pure_ (i:=1) (N:=some 6) (v:=?_) (a':=?_) M26 rfl rfl (by kernel_rfl) (fun _ _ _ h => h) (Or.inl ⟨by rfl,?_⟩) ?_ ?_
 rotate_left
 ·intro w'
  go_simp
  with_reducible rfl
 rotate_left
 ·simp only [Act.put,sA,sZ,sS]
  rfl
 refine pure_ (i:=2) (N:=some 7) (v:=?_) (a':=?_) M29 rfl rfl (by kernel_rfl) (fun _ _ _ h => h) (Or.inl ⟨by rfl,?_⟩) ?_ ?_
 rotate_left
 ·intro w'
  go_simp
  with_reducible rfl
 rotate_left
 ·simp only [Act.put,sA,sZ,sS]
  rfl
 refine pure_ (i:=3) (N:=some 8) (v:=?_) (a':=?_) M2b rfl rfl (by kernel_rfl) (fun _ _ _ h => h) (Or.inl ⟨by rfl,?_⟩) ?_ ?_
 rotate_left
 ·intro w'
  go_simp
  with_reducible rfl
 rotate_left
 ·simp only [Act.put,sA,sZ,sS]
  rfl
 refine take_ (i:=4) (N:=some 9) (v:=?_) (a':=?_) M2e rfl rfl (by kernel_rfl) (fun _ _ _ h => h) (Or.inl ⟨by rfl,?_⟩) hHeld ?_ ?_
 rotate_left
 ·intro w' s0
  have hc18:w'.cell? ⟨gp,18,none⟩ = some (.slice (some ⟨g,off,none⟩) n cw):=(blk_cell s0.1 18).trans rfl
  clear s0
  go_simp
  with_reducible rfl
 rotate_left
 ·simp only [Act.put,sA,sZ,sS]
  rfl
 refine pure_ (i:=5) (N:=some 10) (v:=?_) (a':=?_) M2j rfl rfl (by kernel_rfl) (fun _ _ _ h => h) (Or.inl ⟨by rfl,?_⟩) ?_ ?_
 rotate_left
 ·intro w'
  go_simp
  with_reducible rfl
 rotate_left
 ·simp only [Act.put,sA,sZ,sS]
  rfl
 refine take_ (i:=6) (N:=some 11) (v:=?_) (a':=?_) M2m rfl rfl (by kernel_rfl) (fun _ _ _ h => h) (Or.inl ⟨by rfl,?_⟩) hHeld ?_ ?_
 rotate_left
 ·intro w' s0
  have hc2:w'.cell? ⟨w.heap.size,2,none⟩ = some (.int .i64 (i:Int)):=(blk_cell s0.2.1 2).trans rfl
  clear s0
  go_simp
  with_reducible rfl
 rotate_left
 ·simp only [Act.put,sA,sZ,sS]
  rfl
 refine pure_ (i:=7) (N:=some 12) (v:=?_) (a':=?_) M2p rfl rfl (by kernel_rfl) (fun _ _ _ h => h) (Or.inl ⟨by rfl,?_⟩) ?_ ?_
 rotate_left
 ·intro w'
  have hi1:=HI.out
  go_simp
  rfl
 rotate_left
 ·simp only [Act.put,sA,sZ,sS]
  rfl
 refine take_ (i:=8) (N:=some 13) (v:=?_) (a':=?_) M2s rfl rfl (by kernel_rfl) (fun _ _ _ h => h) (Or.inl ⟨by rfl,?_⟩) hHeld ?_ ?_
 rotate_left
 ·intro w' s0
  have hu150:=Try.underlying150
  have hd0:w'.cell? ⟨g,off + i * 12 + 0,none⟩ = some (.int .i64 f.dst):=s0.2.2 0 _ rfl
  have hd1:w'.cell? ⟨g,off + i * 12 + 1,none⟩ = some (.int .u32 f.boot):=s0.2.2 1 _ rfl
  have hd2:w'.cell? ⟨g,off + i * 12 + 2,none⟩ = some (.int .i64 f.p.kind):=s0.2.2 2 _ rfl
  have hd3:w'.cell? ⟨g,off + i * 12 + 3,none⟩ = some (.int .u32 f.p.mine):=s0.2.2 3 _ rfl
  have hd4:w'.cell? ⟨g,off + i * 12 + 4,none⟩ = some (.int .u32 f.p.boot):=s0.2.2 4 _ rfl
  have hd5:w'.cell? ⟨g,off + i * 12 + 5,none⟩ = some (.int .u32 f.p.yours):=s0.2.2 5 _ rfl
  have hd6:w'.cell? ⟨g,off + i * 12 + 6,none⟩ = some (.int .u32 f.p.seq):=s0.2.2 6 _ rfl
  have hd7:w'.cell? ⟨g,off + i * 12 + 7,none⟩ = some (.int .u32 f.p.ack):=s0.2.2 7 _ rfl
  have hd8:w'.cell? ⟨g,off + i * 12 + 8,none⟩ = some (.int .u32 f.p.stamp):=s0.2.2 8 _ rfl
  have hd9:w'.cell? ⟨g,off + i * 12 + 9,none⟩ = some (.int .u32 f.p.echo):=s0.2.2 9 _ rfl
  have hd10:w'.cell? ⟨g,off + i * 12 + 10,none⟩ = some (.complex .f64 f.p.zr f.p.zi):=s0.2.2 10 _ rfl
  have hd11:w'.cell? ⟨g,off + i * 12 + 11,none⟩ = some (b):=s0.2.2 11 _ rfl
  have hd00:w'.cell? ⟨g,off + i * 12,none⟩ = some (.int .i64 f.dst):=s0.2.2 0 _ rfl
  clear s0
  go_simp
  try rfl
 rotate_left
 ·simp only [Act.put,sA,sZ,sS]
  rfl
 refine last_ (i:=9) (N:=some 14) M2w rfl rfl (by kernel_rfl) (by decide) (fun K hK => ?_)
 have hQ2:=H.out.sub HBD.out
 refine goes_ Try.func83 (by kernel_rfl) rfl #[.pointer (some ⟨gp,0,none⟩),.agg #[.int .i64 f.dst,.int .u32 f.boot,.int .i64 f.p.kind,.int .u32 f.p.mine,.int .u32 f.p.boot,.int .u32 f.p.yours,.int .u32 f.p.seq,.int .u32 f.p.ack,.int .u32 f.p.stamp,.int .u32 f.p.echo,.complex .f64 f.p.zr f.p.zi,b]] (by rfl) rfl rfl (by (try simp only [List.map_toArray,List.map_cons,List.map_nil]); first | done | rfl) ?_
 refine (put_of hQ2 f b (Kd.M_kept HM.out (Kept.of_below HBD.out (fun _ => False)) (fun _ _ hf => hf)) (by rw [HWL.out]; exact HL.out)).mono ?_
 rintro e w3 ⟨rfl,hMv⟩
 refine ⟨_,rfl,?_⟩
 have HMV:=Lib.hid (Moves.then' H.out HBD.out hMv)
 clear hMv hQ2 hHeld
 refine hK.out _ _ ?_
 clear hK K
 refine done_ (by kernel_rfl) ?_
 go_wp2_with fail
 all_goals (go_ret; exact ⟨rfl,HMV.out⟩)
end Go.Proofs.Ytnkkgofpifhoeaa.Pr
end
section
namespace Go.Proofs.Ytnkkgofpifhoeaa.Pr
open Go.RowKit Go.Proofs.Ytnkkgofpifhoeaa.Base Go.Proofs.Ytnkkgofpifhoeaa.Steps Go.Proofs.Ytnkkgofpifhoeaa.Lk Go.Proofs.Ytnkkgofpifhoeaa.Win Go.Proofs.YtnkkgofpifhoeaaW.PrintWords Go.Proofs.YtnkkgofpifhoeaaW.PrintLast
set_option maxRecDepth 100000 in
set_option maxHeartbeats 4000000 in
theorem deliver_n_0 {w:World} {B gp:Nat} {ge:Nat → Nat} {own:Nat → Nat → Prop} {X:Pr} {lv:Nat → Value} {wv:Value} (h:PAt w B gp ge own X lv wv) (i:Nat) (hi:i < X.way.length) (hlw:X.way.length ≤ 1024) (bt:Int) (p:Pkt) (hf:X.way.getD i nilF = ⟨0,bt,p⟩) (hbt:0 < bt ∧ bt < 4294967296) (hp:p.Good) (hok:(X.sd 0).end_.Ok) (hll:(X.sd 0).log.length ≤ 1000000) (kind side:Int) (vb:Value) (L':Lk) (hdb:Bool) (hT:takeF (X.sd 0).end_ bt p = (L',⟨hdb,false,false,[]⟩)) :
  Calls Try.prog 112 #[.pointer (some ⟨gp,0,none⟩),.agg #[.int .i64 kind,.int .i64 side,.int .i64 (i:Int),vb]] w fun e w' => e = .returned (.int .i64 0) ∧ Moves w B gp ge own (({ X with way:=X.way.eraseIdx i }:Pr).set 0 (endF (X.sd 0) L')) (fun k => k = gp ∨ own 1 k ∨ own 3 k) w':=by
 have hba:Below w.heap.size w (w.alloc (.cells #[.int .i64 kind,.int .i64 side,.int .i64 (i:Int),vb] 72)):=(Below.refl _ _).alloc (Nat.le_refl _) _
 have hc2:(w.alloc (.cells #[.int .i64 kind,.int .i64 side,.int .i64 (i:Int),vb] 72)).cell? ⟨w.heap.size,2,none⟩ = some (.int .i64 (i:Int)):=(blk_cell (heap_alloc_new w _) 2).trans rfl
 have HX1:=Lib.hid (h.sub hba)
 have HBA:=Lib.hid hba
 have H:=Lib.hid h
 have HI:=Lib.hid hi
 have HL:=Lib.hid hlw
 have HFF:=Lib.hid hf
 have HBT:=Lib.hid hbt
 have HPG:=Lib.hid hp
 have OK:=Lib.hid hok
 have HLL:=Lib.hid hll
 have HT:=Lib.hid hT
 clear h hba hi hlw hf hbt hp hok hll hT
 go_enter Try.func112,Try.ntmps112
 go_wp2_with (first | (go_at_call 128; (have hc:=out_p HX1.out i HI.out HL.out); rw [HFF.out] at hc; (with_reducible refine hc.mono ?_); clear hc; rintro e w3 ⟨b3,rfl,hR3,hM3⟩; (obtain ⟨Ab,cb,hb3⟩:=Kd.R_slice hR3); (subst hb3); (obtain ⟨own1,lv1,wv1,hP1,hg1,hk1,hb1⟩:=hM3); (have HP1:=Lib.hid hP1); (have HG1:=Lib.hid ((Grew.refl w own).trans HBA.out.size hg1)); (have HK1:=Lib.hid (show Kept w w3 (fun k => k = gp ∨ own 1 k ∨ own 3 k) from (Kept.of_below HBA.out _).then_ hk1 (fun k hk => .inl (.inl hk)))); (have HB1:=Lib.hid ((HBA.out.mono H.out.hB).trans hb1)); (have HR3:=Lib.hid (Kd.R_mono hR3 (fun k hk => hg1.1 5 k hk))); (have HZ3:=Lib.hid (heap_alloc_new w3 (.cells #[.int .i64 0,.int .u32 0,.int .i64 0,.int .u32 0,.int .u32 0,.int .u32 0,.int .u32 0,.int .u32 0,.int .u32 0,.int .u32 0,.complex .f64 0 0,.slice none 0 0] 150))); (have HZB:=Lib.hid (show Below w3.heap.size w3 (w3.alloc (.cells #[.int .i64 0,.int .u32 0,.int .i64 0,.int .u32 0,.int .u32 0,.int .u32 0,.int .u32 0,.int .u32 0,.int .u32 0,.int .u32 0,.complex .f64 0 0,.slice none 0 0] 150)) from (Below.refl _ _).alloc (Nat.le_refl _) _)); (clear hP1 hg1 hk1 hb1 hR3)) | ((with_reducible refine gate_ (.store 150 (.tmp 5) (.tmp 12)) rfl ?_); (refine store_row_F rfl rfl 150 (.tmp 5) (.tmp 12) rfl w3.heap.size #[.int .i64 0,.int .u32 bt,.int .i64 p.kind,.int .u32 p.mine,.int .u32 p.boot,.int .u32 p.yours,.int .u32 p.seq,.int .u32 p.ack,.int .u32 p.stamp,.int .u32 p.echo,.complex .f64 p.zr p.zi,.slice Ab p.body.length cb] rfl rfl 150 _ HZ3.out (by kernel_rfl) rfl (by kernel_rfl) ?_); (intro w4 hb4 hat4); (have HB4:=Lib.hid hb4); (have HBL:=Lib.hid (hat4.below HZB.out (Nat.le_refl _))); (have hd0:w4.cell? ⟨w3.heap.size,0,none⟩ = some (.int .i64 0):=(blk_cell HB4.out 0).trans rfl); (clear hb4 hat4)))
 go_quiet (fail)
 rename Nat => nq1
 go_wp2_with fail
 have hbd:=bl_drew (bl_drewN HBL.out nq1)
 have hSS:(w4.drewN nq1).drew.heap[gp]? = some (.cells (prow ({ X with way:=X.way.eraseIdx i }:Pr) ge lv1 wv1) 143 (0,0)) ∧ (w4.drewN nq1).drew.heap[w3.heap.size]? = some (.cells #[.int .i64 0,.int .u32 bt,.int .i64 p.kind,.int .u32 p.mine,.int .u32 p.boot,.int .u32 p.yours,.int .u32 p.seq,.int .u32 p.ack,.int .u32 p.stamp,.int .u32 p.echo,.complex .f64 p.zr p.zi,.slice Ab p.body.length cb] 150 (0,0)):=⟨(HP1.out.sub hbd).blk,HB4.out⟩
 clear HB4 HBL HZ3 HZB hd0
 refine start_ (n:=15) (S:=fun w' => w'.heap[gp]? = some (.cells (prow ({ X with way:=X.way.eraseIdx i }:Pr) ge lv1 wv1) 143 (0,0)) ∧ w'.heap[w3.heap.size]? = some (.cells #[.int .i64 0,.int .u32 bt,.int .i64 p.kind,.int .u32 p.mine,.int .u32 p.boot,.int .u32 p.yours,.int .u32 p.seq,.int .u32 p.ack,.int .u32 p.stamp,.int .u32 p.echo,.complex .f64 p.zr p.zi,.slice Ab p.body.length cb] 150 (0,0))) (ds:=[13]) M01 (by kernel_rfl) rfl rfl (hSS) (fun hHeld => ?_)
 generalize (w4.drewN nq1).drew = w6 at hbd hHeld ⊢
 have HBD:=Lib.hid hbd
 clear hbd
 refine pure_ (i:=0) (N:=some 20) (v:=?_) (a':=?_) M02 rfl rfl (by kernel_rfl) (fun _ _ _ h => h) (Or.inl ⟨by rfl,?_⟩) ?_ ?_
 rotate_left
 ·intro w'
  go_simp
  with_reducible rfl
 rotate_left
 ·simp only [Act.put,sA,sZ,sS]
  rfl
 refine pure_ (i:=1) (N:=some 21) (v:=?_) (a':=?_) M03 rfl rfl (by kernel_rfl) (fun _ _ _ h => h) (Or.inl ⟨by rfl,?_⟩) ?_ ?_
 rotate_left
 ·intro w'
  go_simp
  with_reducible rfl
 rotate_left
 ·simp only [Act.put,sA,sZ,sS]
  rfl
 refine pure_ (i:=2) (N:=some 22) (v:=?_) (a':=?_) M04 rfl rfl (by kernel_rfl) (fun _ _ _ h => h) (Or.inl ⟨by rfl,?_⟩) ?_ ?_
 rotate_left
 ·intro w'
  go_simp
  rfl
 rotate_left
 ·simp only [Act.put,sA,sZ,sS]
  rfl
 refine take_ (i:=3) (N:=some 23) (v:=?_) (a':=?_) M05 rfl rfl (by kernel_rfl) (fun _ _ _ h => h) (Or.inl ⟨by rfl,?_⟩) hHeld ?_ ?_
 rotate_left
 ·intro w' s0
  have hc2:w'.cell? ⟨gp,0,none⟩ = some (.pointer (some ⟨ge 0,0,none⟩)):=(blk_cell s0.1 0).trans rfl
  clear s0
  go_simp
  rfl
 rotate_left
 ·simp only [Act.put,sA,sZ,sS]
  rfl
 refine pure_ (i:=4) (N:=some 24) (v:=?_) (a':=?_) M06 rfl rfl (by kernel_rfl) (fun _ _ _ h => h) (Or.inl ⟨by rfl,?_⟩) ?_ ?_
 rotate_left
 ·intro w'
  go_simp
  with_reducible rfl
 rotate_left
 ·simp only [Act.put,sA,sZ,sS]
  rfl
 refine take_ (i:=5) (N:=some 25) (v:=?_) (a':=?_) M07 rfl rfl (by kernel_rfl) (fun _ _ _ h => h) (Or.inl ⟨by rfl,?_⟩) hHeld ?_ ?_
 rotate_left
 ·intro w' s0
  have hc3:w'.cell? ⟨w3.heap.size,1,none⟩ = some (.int .u32 bt):=(blk_cell s0.2 1).trans rfl
  clear s0
  go_simp
  with_reducible rfl
 rotate_left
 ·simp only [Act.put,sA,sZ,sS]
  rfl
 refine pure_ (i:=6) (N:=some 26) (v:=?_) (a':=?_) M08 rfl rfl (by kernel_rfl) (fun _ _ _ h => h) (Or.inl ⟨by rfl,?_⟩) ?_ ?_
 rotate_left
 ·intro w'
  go_simp
  with_reducible rfl
 rotate_left
 ·simp only [Act.put,sA,sZ,sS]
  rfl
 refine take_ (i:=7) (N:=some 27) (v:=?_) (a':=?_) M09 rfl rfl (by kernel_rfl) (fun _ _ _ h => h) (Or.inl ⟨by rfl,?_⟩) hHeld ?_ ?_
 rotate_left
 ·intro w' s0
  have hu27:=Try.underlying27
  have hd2:w'.cell? ⟨w3.heap.size,2,none⟩ = some (.int .i64 p.kind):=(blk_cell s0.2 2).trans rfl
  have hd3:w'.cell? ⟨w3.heap.size,3,none⟩ = some (.int .u32 p.mine):=(blk_cell s0.2 3).trans rfl
  have hd4:w'.cell? ⟨w3.heap.size,4,none⟩ = some (.int .u32 p.boot):=(blk_cell s0.2 4).trans rfl
  have hd5:w'.cell? ⟨w3.heap.size,5,none⟩ = some (.int .u32 p.yours):=(blk_cell s0.2 5).trans rfl
  have hd6:w'.cell? ⟨w3.heap.size,6,none⟩ = some (.int .u32 p.seq):=(blk_cell s0.2 6).trans rfl
  have hd7:w'.cell? ⟨w3.heap.size,7,none⟩ = some (.int .u32 p.ack):=(blk_cell s0.2 7).trans rfl
  have hd8:w'.cell? ⟨w3.heap.size,8,none⟩ = some (.int .u32 p.stamp):=(blk_cell s0.2 8).trans rfl
  have hd9:w'.cell? ⟨w3.heap.size,9,none⟩ = some (.int .u32 p.echo):=(blk_cell s0.2 9).trans rfl
  have hd10:w'.cell? ⟨w3.heap.size,10,none⟩ = some (.complex .f64 p.zr p.zi):=(blk_cell s0.2 10).trans rfl
  have hd11:w'.cell? ⟨w3.heap.size,11,none⟩ = some (.slice Ab p.body.length cb):=(blk_cell s0.2 11).trans rfl
  clear s0
  go_simp
  try rfl
 rotate_left
 ·simp only [Act.put,sA,sZ,sS]
  rfl
 refine join_ (σ:=Nat × Option Addr × Nat) 2 M00 (fun s => [(28,.tuple #[.agg #[.bool hdb,.bool false,.bool false,.slice s.2.1 0 s.2.2],.int .i64 0]),(19,.tuple #[.agg #[.bool hdb,.bool false,.bool false,.slice s.2.1 0 s.2.2],.int .i64 0]),(29,.agg #[.bool hdb,.bool false,.bool false,.slice s.2.1 0 s.2.2]),(30,.int .i64 0),(7,.pointer (some ⟨s.1,0,none⟩))]) (fun s w' => DVE w B gp ge own (({ X with way:=X.way.eraseIdx i }:Pr).set 0 (endF (X.sd 0) L')) (fun k => k = gp ∨ own 1 k ∨ own 3 k) s.1 (.slice s.2.1 0 s.2.2) [] #[.bool false,.bool false,.bool false,.slice none 0 0] w') ?_ ?_
 rotate_left
 ·intro hcont
  refine two_ (i:=8) (j:=12) (Ni:=some 28) (Nj:=some 7) M0a M0A rfl rfl rfl rfl (by kernel_rfl) (by decide) (by decide) (fun K hK => ?_) (fun K hK => ?_)
  ·skip
   have hQ6:=(HP1.out.sub HBD.out)
   refine goes_ Try.func34 (by kernel_rfl) rfl #[.pointer (some ⟨ge 0,0,none⟩),.int .u32 bt,.agg #[.int .i64 p.kind,.int .u32 p.mine,.int .u32 p.boot,.int .u32 p.yours,.int .u32 p.seq,.int .u32 p.ack,.int .u32 p.stamp,.int .u32 p.echo,.complex .f64 p.zr p.zi,.slice Ab p.body.length cb]] (by rfl) rfl rfl (by (try simp only [List.map_toArray,List.map_cons,List.map_nil]); first | done | rfl) ?_
   have hc9:Calls Try.prog 34 #[.pointer (some ⟨ge 0,0,none⟩),.int .u32 bt,.agg #[.int .i64 p.kind,.int .u32 p.mine,.int .u32 p.boot,.int .u32 p.yours,.int .u32 p.seq,.int .u32 p.ack,.int .u32 p.stamp,.int .u32 p.echo,.complex .f64 p.zr p.zi,.slice Ab p.body.length cb]] w6 _:=take_end (hQ6.e 0 (by decide)) hQ6.hB OK.out bt p HBT.out HPG.out (cs:=cells p (.slice Ab p.body.length cb)) (okp:=own1 5) (pkt_M.2 ⟨_,rfl,Kd.R_kept HR3.out (Kept.of_below HBD.out (fun _ => False)) (fun _ _ hf => hf)⟩) (fun k hx hy => by have:=hQ6.disj 5 (1 + 0) k hx hy; omega)
   refine hc9.mono ?_
   clear hc9
   intro e w7 hT7
   have hT8:TookT w6 B (own1 (1 + 0)) (ge 0) (L',⟨hdb,false,false,[]⟩) e w7:=by
    have hh:=HT.out
    rw [← hh]
    exact hT7
   clear hT7
   obtain ⟨v7,rfl,⟨A7,c7,hv7⟩,hD⟩:=DV.behind (cs:=#[.bool false,.bool false,.bool false,.slice none 0 0]) (s:=0) (by decide) hQ6 HG1.out (HK1.out.below HBD.out) (HB1.out.trans (HBD.out.mono HP1.out.hB)) (fun k hk => (HG1.out.2 _ k hk).elim (fun x => .inl (.inr (.inl x))) .inr) hT8
   have hv8:v7 = .slice A7 0 c7:=by rw [hv7]; rfl
   subst hv8
   clear hv7
   have HD:=Lib.hid hD
   refine ⟨_,rfl,?_⟩
   have hS7:w7.heap[gp]? = some (.cells (prow ({ X with way:=X.way.eraseIdx i }:Pr) ge lv1 wv1) 143 (0,0)) ∧ w7.heap[w3.heap.size]? = some (.cells #[.int .i64 0,.int .u32 bt,.int .i64 p.kind,.int .u32 p.mine,.int .u32 p.boot,.int .u32 p.yours,.int .u32 p.seq,.int .u32 p.ack,.int .u32 p.stamp,.int .u32 p.echo,.complex .f64 p.zr p.zi,.slice Ab p.body.length cb] 150 (0,0)):=⟨blk_kept hHeld.1 (Took.turns hT8).2.1 (HP1.out.gp0 _),blk_kept hHeld.2 (Took.turns hT8).2.1 (fun hx => by have:=HP1.out.lt _ _ hx; omega)⟩
   clear hT8 hD hQ6 hHeld
   refine hK.out _ _ hS7 (fun hHeld => ?_)
   clear hK K hS7
   refine norm_ (a':=?_) ?_ ?_
   rotate_left
   ·show Act.put _ (some 28) _ = _
    simp only [Act.put,sA,sZ,sS]
    rfl
   refine pure_ (i:=9) (N:=some 19) (v:=?_) (a':=?_) M0b rfl rfl (by kernel_rfl) (fun _ _ _ h => h) (Or.inl ⟨by rfl,?_⟩) ?_ ?_
   rotate_left
   ·intro w'
    go_simp
    with_reducible rfl
   rotate_left
   ·simp only [Act.put,sA,sZ,sS]
    rfl
   refine pure_ (i:=10) (N:=some 29) (v:=?_) (a':=?_) M0c rfl rfl (by kernel_rfl) (fun _ _ _ h => h) (Or.inl ⟨by rfl,?_⟩) ?_ ?_
   rotate_left
   ·intro w'
    go_simp
    with_reducible rfl
   rotate_left
   ·simp only [Act.put,sA,sZ,sS]
    rfl
   refine pure_ (i:=11) (N:=some 30) (v:=?_) (a':=?_) M0d rfl rfl (by kernel_rfl) (fun _ _ _ h => h) (Or.inl ⟨by rfl,?_⟩) ?_ ?_
   rotate_left
   ·intro w'
    go_simp
    with_reducible rfl
   rotate_left
   ·simp only [Act.put,sA,sZ,sS]
    rfl
   refine one_ (i:=12) (N:=some 7) M00 rfl rfl (by kernel_rfl) (by decide) (fun K hK => ?_)
   refine box_step (by rfl) (N:=7) rfl (cs:=#[.bool false,.bool false,.bool false,.slice none 0 0]) (t:=56) (by first | (go_simp; done) | (go_simp; rfl)) ?_
   intro g7 hg7 w8 hbx hb8
   have hS8:w8.heap[gp]? = some (.cells (prow ({ X with way:=X.way.eraseIdx i }:Pr) ge lv1 wv1) 143 (0,0)) ∧ w8.heap[w3.heap.size]? = some (.cells #[.int .i64 0,.int .u32 bt,.int .i64 p.kind,.int .u32 p.mine,.int .u32 p.boot,.int .u32 p.yours,.int .u32 p.seq,.int .u32 p.ack,.int .u32 p.stamp,.int .u32 p.echo,.complex .f64 p.zr p.zi,.slice Ab p.body.length cb] 150 (0,0)):=⟨(hb8.block gp (blk_lt hHeld.1)).trans hHeld.1,(hb8.block _ (blk_lt hHeld.2)).trans hHeld.2⟩
   have HD8:=Lib.hid (HD.out w8 g7 hg7 hbx hb8)
   clear hbx hb8 HD hHeld hg7
   refine hK.out _ _ hS8 (fun hHeld => ?_)
   clear hK K hS8
   refine norm_ (a':=?_) ?_ ?_
   rotate_left
   ·show Act.put _ (some 7) _ = _
    simp only [Act.put,sA,sZ,sS]
    rfl
   have h9:=hcont (g7,A7,c7) _ HD8.out
   simp only [putAll,Act.put,sA,sZ,sS] at h9
   exact h9
  ·skip
   refine box_step (by rfl) (N:=7) rfl (cs:=#[.bool false,.bool false,.bool false,.slice none 0 0]) (t:=56) (by first | (go_simp; done) | (go_simp; rfl)) ?_
   intro g7 hg7 w8 hbx hb8
   have hS8:w8.heap[gp]? = some (.cells (prow ({ X with way:=X.way.eraseIdx i }:Pr) ge lv1 wv1) 143 (0,0)) ∧ w8.heap[w3.heap.size]? = some (.cells #[.int .i64 0,.int .u32 bt,.int .i64 p.kind,.int .u32 p.mine,.int .u32 p.boot,.int .u32 p.yours,.int .u32 p.seq,.int .u32 p.ack,.int .u32 p.stamp,.int .u32 p.echo,.complex .f64 p.zr p.zi,.slice Ab p.body.length cb] 150 (0,0)):=⟨(hb8.block gp (blk_lt hHeld.1)).trans hHeld.1,(hb8.block _ (blk_lt hHeld.2)).trans hHeld.2⟩
   have HQ8:=Lib.hid ((HP1.out.sub HBD.out).sub hb8)
   have hl6:=blk_lt (HP1.out.sub HBD.out).blk
   have hz6:=HBD.out.size
   have hz3:=HK1.out.1
   have HH8:=Lib.hid (show w8.heap[g7]? = some (.cells #[.bool false,.bool false,.bool false,.slice none 0 0] 56 (0,0)) ∧ (g7 ≠ gp ∧ ∀ i,¬ own1 i g7) ∧ w.heap.size ≤ g7 from ⟨hbx,⟨by omega,fun i hi => by have:=(HP1.out.sub HBD.out).lt i g7 hi; omega⟩,by omega⟩)
   have HB8:=Lib.hid hb8
   clear hbx hl6 hz6 hz3 hHeld hg7
   clear hb8
   refine hK.out _ _ hS8 (fun hHeld => ?_)
   clear hK K hS8
   refine norm_ (a':=?_) ?_ ?_
   rotate_left
   ·show Act.put _ (some 7) _ = _
    simp only [Act.put,sA,sZ,sS]
    rfl
   refine one_ (i:=8) (N:=some 28) M0B rfl rfl (by kernel_rfl) (by decide) (fun K hK => ?_)
   have hQ6:=HQ8.out
   refine goes_ Try.func34 (by kernel_rfl) rfl #[.pointer (some ⟨ge 0,0,none⟩),.int .u32 bt,.agg #[.int .i64 p.kind,.int .u32 p.mine,.int .u32 p.boot,.int .u32 p.yours,.int .u32 p.seq,.int .u32 p.ack,.int .u32 p.stamp,.int .u32 p.echo,.complex .f64 p.zr p.zi,.slice Ab p.body.length cb]] (by rfl) rfl rfl (by (try simp only [List.map_toArray,List.map_cons,List.map_nil]); first | done | rfl) ?_
   have hc9:Calls Try.prog 34 #[.pointer (some ⟨ge 0,0,none⟩),.int .u32 bt,.agg #[.int .i64 p.kind,.int .u32 p.mine,.int .u32 p.boot,.int .u32 p.yours,.int .u32 p.seq,.int .u32 p.ack,.int .u32 p.stamp,.int .u32 p.echo,.complex .f64 p.zr p.zi,.slice Ab p.body.length cb]] w8 _:=take_end (hQ6.e 0 (by decide)) hQ6.hB OK.out bt p HBT.out HPG.out (cs:=cells p (.slice Ab p.body.length cb)) (okp:=own1 5) (pkt_M.2 ⟨_,rfl,Kd.R_kept HR3.out (Kept.of_below (HBD.out.trans (HB8.out.mono HBD.out.size)) (fun _ => False)) (fun _ _ hf => hf)⟩) (fun k hx hy => by have:=hQ6.disj 5 (1 + 0) k hx hy; omega)
   refine hc9.mono ?_
   clear hc9
   intro e w7 hT7
   have hT8:TookT w8 B (own1 (1 + 0)) (ge 0) (L',⟨hdb,false,false,[]⟩) e w7:=by
    have hh:=HT.out
    rw [← hh]
    exact hT7
   clear hT7
   obtain ⟨v7,rfl,⟨A7,c7,hv7⟩,hD⟩:=DV.ahead (s:=0) (by decide) hQ6 HG1.out (HK1.out.below (HBD.out.trans (HB8.out.mono HBD.out.size))) (HB1.out.trans ((HBD.out.trans (HB8.out.mono HBD.out.size)).mono HP1.out.hB)) (fun k hk => (HG1.out.2 _ k hk).elim (fun x => .inl (.inr (.inl x))) .inr) HH8.out.1 HH8.out.2.1 HH8.out.2.2 hT8
   have hv8:v7 = .slice A7 0 c7:=by rw [hv7]; rfl
   subst hv8
   clear hv7
   have HD:=Lib.hid hD
   refine ⟨_,rfl,?_⟩
   have hS7:w7.heap[gp]? = some (.cells (prow ({ X with way:=X.way.eraseIdx i }:Pr) ge lv1 wv1) 143 (0,0)) ∧ w7.heap[w3.heap.size]? = some (.cells #[.int .i64 0,.int .u32 bt,.int .i64 p.kind,.int .u32 p.mine,.int .u32 p.boot,.int .u32 p.yours,.int .u32 p.seq,.int .u32 p.ack,.int .u32 p.stamp,.int .u32 p.echo,.complex .f64 p.zr p.zi,.slice Ab p.body.length cb] 150 (0,0)):=⟨blk_kept hHeld.1 (Took.turns hT8).2.1 (HP1.out.gp0 _),blk_kept hHeld.2 (Took.turns hT8).2.1 (fun hx => by have:=HP1.out.lt _ _ hx; omega)⟩
   clear hT8 hD hQ6 hHeld
   refine hK.out _ _ hS7 (fun hHeld => ?_)
   clear hK K hS7
   refine norm_ (a':=?_) ?_ ?_
   rotate_left
   ·show Act.put _ (some 28) _ = _
    simp only [Act.put,sA,sZ,sS]
    rfl
   refine pure_ (i:=9) (N:=some 19) (v:=?_) (a':=?_) M0C rfl rfl (by kernel_rfl) (fun _ _ _ h => h) (Or.inl ⟨by rfl,?_⟩) ?_ ?_
   rotate_left
   ·intro w'
    go_simp
    with_reducible rfl
   rotate_left
   ·simp only [Act.put,sA,sZ,sS]
    rfl
   refine pure_ (i:=10) (N:=some 29) (v:=?_) (a':=?_) M0D rfl rfl (by kernel_rfl) (fun _ _ _ h => h) (Or.inl ⟨by rfl,?_⟩) ?_ ?_
   rotate_left
   ·intro w'
    go_simp
    with_reducible rfl
   rotate_left
   ·simp only [Act.put,sA,sZ,sS]
    rfl
   refine pure_ (i:=11) (N:=some 30) (v:=?_) (a':=?_) M00 rfl rfl (by kernel_rfl) (fun _ _ _ h => h) (Or.inl ⟨by rfl,?_⟩) ?_ ?_
   rotate_left
   ·intro w'
    go_simp
    with_reducible rfl
   rotate_left
   ·simp only [Act.put,sA,sZ,sS]
    rfl
   have h9:=hcont (g7,A7,c7) _ HD.out
   simp only [putAll,Act.put,sA,sZ,sS] at h9
   exact h9
 intro s9 w9 hF
 obtain ⟨g7,A7,c7⟩:=s9
 obtain ⟨own2,lv2,wv2,okb,hD⟩:=hF
 have HD:=Lib.hid hD
 clear hD
 refine norm_ (a':=?_) ?_ ?_
 rotate_left
 ·show putAll _ _ = _
  simp only [putAll,Act.put,sA,sZ,sS]
  rfl
 have hc0:w9.cell? ⟨g7,0,none⟩ = some (.bool false):=(blk_cell HD.out.t7 0).trans rfl
 have hf0:=blk_frozen HD.out.t7 0
 have hc1:w9.cell? ⟨g7,1,none⟩ = some (.bool false):=(blk_cell HD.out.t7 1).trans rfl
 have hf1:=blk_frozen HD.out.t7 1
 have hc2:w9.cell? ⟨g7,2,none⟩ = some (.bool false):=(blk_cell HD.out.t7 2).trans rfl
 have hf2:=blk_frozen HD.out.t7 2
 have hc3:w9.cell? ⟨g7,3,none⟩ = some (.slice none 0 0):=(blk_cell HD.out.t7 3).trans rfl
 have hf3:=blk_frozen HD.out.t7 3
 refine last_ (i:=13) (N:=none) M0e rfl rfl (by kernel_rfl) (by decide) (fun K hK => ?_)
 refine skip_F (fun wz => wz.heap[g7]? = some (.cells #[.bool hdb,.bool false,.bool false,.slice A7 0 c7] 56 (0,0)) ∧ Steps.At g7 w9 wz) (by rfl) rfl ⟨_,by go_simp; rfl,?_,?_⟩ (fun w10 hF => ?_)
 ·skip
  have hb1:=blk_put HD.out.t7 0 (.bool hdb) (cs':=#[.bool hdb,.bool false,.bool false,.slice none 0 0]) rfl
  have hb2:=blk_put hb1 1 (.bool false) (cs':=#[.bool hdb,.bool false,.bool false,.slice none 0 0]) rfl
  have hb3:=blk_put hb2 2 (.bool false) (cs':=#[.bool hdb,.bool false,.bool false,.slice none 0 0]) rfl
  have hb4:=blk_put hb3 3 (.slice A7 0 c7) (cs':=#[.bool hdb,.bool false,.bool false,.slice A7 0 c7]) rfl
  exact hb4
 ·repeat (first | (with_reducible exact Steps.At.refl _ _) | refine Steps.At.set ?_ _ _)
 have HD10:=Lib.hid (HD.out.write H.out.hB hF.1 hF.2)
 clear hF HD hc0 hf0 hc1 hf1 hc2 hf2 hc3 hf3
 refine hK.out _ _ ?_
 clear hK K
 refine pure_ (i:=14) (N:=some 8) (v:=?_) (a':=?_) M0f rfl rfl (by kernel_rfl) (fun _ _ _ h => h) (Or.inl ⟨by rfl,?_⟩) ?_ ?_
 rotate_left
 ·intro w'
  go_simp
  with_reducible rfl
 rotate_left
 ·simp only [Act.put,sA,sZ,sS]
  rfl
 refine done_ (by kernel_rfl) ?_
 have ht1:w10.cell? ⟨g7,1,none⟩ = some (.bool false):=(blk_cell HD10.out.t7 1).trans rfl
 have ht2:w10.cell? ⟨g7,2,none⟩ = some (.bool false):=(blk_cell HD10.out.t7 2).trans rfl
 have ht3:w10.cell? ⟨g7,3,none⟩ = some (.slice A7 0 c7):=(blk_cell HD10.out.t7 3).trans rfl
 go_wp2_with fail
 all_goals (go_ret; exact ⟨rfl,own2,lv2,wv2,HD10.out.at_,HD10.out.grew,HD10.out.kept,HD10.out.below⟩)
set_option maxRecDepth 100000 in
set_option maxHeartbeats 4000000 in
theorem deliver_n_1 {w:World} {B gp:Nat} {ge:Nat → Nat} {own:Nat → Nat → Prop} {X:Pr} {lv:Nat → Value} {wv:Value} (h:PAt w B gp ge own X lv wv) (i:Nat) (hi:i < X.way.length) (hlw:X.way.length ≤ 1024) (bt:Int) (p:Pkt) (hf:X.way.getD i nilF = ⟨1,bt,p⟩) (hbt:0 < bt ∧ bt < 4294967296) (hp:p.Good) (hok:(X.sd 1).end_.Ok) (hll:(X.sd 1).log.length ≤ 1000000) (kind side:Int) (vb:Value) (L':Lk) (hdb:Bool) (hT:takeF (X.sd 1).end_ bt p = (L',⟨hdb,false,false,[]⟩)) :
  Calls Try.prog 112 #[.pointer (some ⟨gp,0,none⟩),.agg #[.int .i64 kind,.int .i64 side,.int .i64 (i:Int),vb]] w fun e w' => e = .returned (.int .i64 0) ∧ Moves w B gp ge own (({ X with way:=X.way.eraseIdx i }:Pr).set 1 (endF (X.sd 1) L')) (fun k => k = gp ∨ own 2 k ∨ own 4 k) w':=by
 have hba:Below w.heap.size w (w.alloc (.cells #[.int .i64 kind,.int .i64 side,.int .i64 (i:Int),vb] 72)):=(Below.refl _ _).alloc (Nat.le_refl _) _
 have hc2:(w.alloc (.cells #[.int .i64 kind,.int .i64 side,.int .i64 (i:Int),vb] 72)).cell? ⟨w.heap.size,2,none⟩ = some (.int .i64 (i:Int)):=(blk_cell (heap_alloc_new w _) 2).trans rfl
 have HX1:=Lib.hid (h.sub hba)
 have HBA:=Lib.hid hba
 have H:=Lib.hid h
 have HI:=Lib.hid hi
 have HL:=Lib.hid hlw
 have HFF:=Lib.hid hf
 have HBT:=Lib.hid hbt
 have HPG:=Lib.hid hp
 have OK:=Lib.hid hok
 have HLL:=Lib.hid hll
 have HT:=Lib.hid hT
 clear h hba hi hlw hf hbt hp hok hll hT
 go_enter Try.func112,Try.ntmps112
 go_wp2_with (first | (go_at_call 128; (have hc:=out_p HX1.out i HI.out HL.out); rw [HFF.out] at hc; (with_reducible refine hc.mono ?_); clear hc; rintro e w3 ⟨b3,rfl,hR3,hM3⟩; (obtain ⟨Ab,cb,hb3⟩:=Kd.R_slice hR3); (subst hb3); (obtain ⟨own1,lv1,wv1,hP1,hg1,hk1,hb1⟩:=hM3); (have HP1:=Lib.hid hP1); (have HG1:=Lib.hid ((Grew.refl w own).trans HBA.out.size hg1)); (have HK1:=Lib.hid (show Kept w w3 (fun k => k = gp ∨ own 2 k ∨ own 4 k) from (Kept.of_below HBA.out _).then_ hk1 (fun k hk => .inl (.inl hk)))); (have HB1:=Lib.hid ((HBA.out.mono H.out.hB).trans hb1)); (have HR3:=Lib.hid (Kd.R_mono hR3 (fun k hk => hg1.1 5 k hk))); (have HZ3:=Lib.hid (heap_alloc_new w3 (.cells #[.int .i64 0,.int .u32 0,.int .i64 0,.int .u32 0,.int .u32 0,.int .u32 0,.int .u32 0,.int .u32 0,.int .u32 0,.int .u32 0,.complex .f64 0 0,.slice none 0 0] 150))); (have HZB:=Lib.hid (show Below w3.heap.size w3 (w3.alloc (.cells #[.int .i64 0,.int .u32 0,.int .i64 0,.int .u32 0,.int .u32 0,.int .u32 0,.int .u32 0,.int .u32 0,.int .u32 0,.int .u32 0,.complex .f64 0 0,.slice none 0 0] 150)) from (Below.refl _ _).alloc (Nat.le_refl _) _)); (clear hP1 hg1 hk1 hb1 hR3)) | ((with_reducible refine gate_ (.store 150 (.tmp 5) (.tmp 12)) rfl ?_); (refine store_row_F rfl rfl 150 (.tmp 5) (.tmp 12) rfl w3.heap.size #[.int .i64 1,.int .u32 bt,.int .i64 p.kind,.int .u32 p.mine,.int .u32 p.boot,.int .u32 p.yours,.int .u32 p.seq,.int .u32 p.ack,.int .u32 p.stamp,.int .u32 p.echo,.complex .f64 p.zr p.zi,.slice Ab p.body.length cb] rfl rfl 150 _ HZ3.out (by kernel_rfl) rfl (by kernel_rfl) ?_); (intro w4 hb4 hat4); (have HB4:=Lib.hid hb4); (have HBL:=Lib.hid (hat4.below HZB.out (Nat.le_refl _))); (have hd0:w4.cell? ⟨w3.heap.size,0,none⟩ = some (.int .i64 1):=(blk_cell HB4.out 0).trans rfl); (clear hb4 hat4)))
 go_quiet (fail)
 rename Nat => nq1
 go_wp2_with fail
 have hbd:=bl_drew (bl_drewN HBL.out nq1)
 have hSS:(w4.drewN nq1).drew.heap[gp]? = some (.cells (prow ({ X with way:=X.way.eraseIdx i }:Pr) ge lv1 wv1) 143 (0,0)) ∧ (w4.drewN nq1).drew.heap[w3.heap.size]? = some (.cells #[.int .i64 1,.int .u32 bt,.int .i64 p.kind,.int .u32 p.mine,.int .u32 p.boot,.int .u32 p.yours,.int .u32 p.seq,.int .u32 p.ack,.int .u32 p.stamp,.int .u32 p.echo,.complex .f64 p.zr p.zi,.slice Ab p.body.length cb] 150 (0,0)):=⟨(HP1.out.sub hbd).blk,HB4.out⟩
 clear HB4 HBL HZ3 HZB hd0
 refine start_ (n:=15) (S:=fun w' => w'.heap[gp]? = some (.cells (prow ({ X with way:=X.way.eraseIdx i }:Pr) ge lv1 wv1) 143 (0,0)) ∧ w'.heap[w3.heap.size]? = some (.cells #[.int .i64 1,.int .u32 bt,.int .i64 p.kind,.int .u32 p.mine,.int .u32 p.boot,.int .u32 p.yours,.int .u32 p.seq,.int .u32 p.ack,.int .u32 p.stamp,.int .u32 p.echo,.complex .f64 p.zr p.zi,.slice Ab p.body.length cb] 150 (0,0))) (ds:=[13]) M01 (by kernel_rfl) rfl rfl (hSS) (fun hHeld => ?_)
 generalize (w4.drewN nq1).drew = w6 at hbd hHeld ⊢
 have HBD:=Lib.hid hbd
 clear hbd
 refine pure_ (i:=0) (N:=some 20) (v:=?_) (a':=?_) M02 rfl rfl (by kernel_rfl) (fun _ _ _ h => h) (Or.inl ⟨by rfl,?_⟩) ?_ ?_
 rotate_left
 ·intro w'
  go_simp
  with_reducible rfl
 rotate_left
 ·simp only [Act.put,sA,sZ,sS]
  rfl
 refine pure_ (i:=1) (N:=some 21) (v:=?_) (a':=?_) M03 rfl rfl (by kernel_rfl) (fun _ _ _ h => h) (Or.inl ⟨by rfl,?_⟩) ?_ ?_
 rotate_left
 ·intro w'
  go_simp
  with_reducible rfl
 rotate_left
 ·simp only [Act.put,sA,sZ,sS]
  rfl
 refine pure_ (i:=2) (N:=some 22) (v:=?_) (a':=?_) M04 rfl rfl (by kernel_rfl) (fun _ _ _ h => h) (Or.inl ⟨by rfl,?_⟩) ?_ ?_
 rotate_left
 ·intro w'
  go_simp
  rfl
 rotate_left
 ·simp only [Act.put,sA,sZ,sS]
  rfl
 refine take_ (i:=3) (N:=some 23) (v:=?_) (a':=?_) M05 rfl rfl (by kernel_rfl) (fun _ _ _ h => h) (Or.inl ⟨by rfl,?_⟩) hHeld ?_ ?_
 rotate_left
 ·intro w' s0
  have hc2:w'.cell? ⟨gp,9,none⟩ = some (.pointer (some ⟨ge 1,0,none⟩)):=(blk_cell s0.1 9).trans rfl
  clear s0
  go_simp
  rfl
 rotate_left
 ·simp only [Act.put,sA,sZ,sS]
  rfl
 refine pure_ (i:=4) (N:=some 24) (v:=?_) (a':=?_) M06 rfl rfl (by kernel_rfl) (fun _ _ _ h => h) (Or.inl ⟨by rfl,?_⟩) ?_ ?_
 rotate_left
 ·intro w'
  go_simp
  with_reducible rfl
 rotate_left
 ·simp only [Act.put,sA,sZ,sS]
  rfl
 refine take_ (i:=5) (N:=some 25) (v:=?_) (a':=?_) M07 rfl rfl (by kernel_rfl) (fun _ _ _ h => h) (Or.inl ⟨by rfl,?_⟩) hHeld ?_ ?_
 rotate_left
 ·intro w' s0
  have hc3:w'.cell? ⟨w3.heap.size,1,none⟩ = some (.int .u32 bt):=(blk_cell s0.2 1).trans rfl
  clear s0
  go_simp
  with_reducible rfl
 rotate_left
 ·simp only [Act.put,sA,sZ,sS]
  rfl
 refine pure_ (i:=6) (N:=some 26) (v:=?_) (a':=?_) M08 rfl rfl (by kernel_rfl) (fun _ _ _ h => h) (Or.inl ⟨by rfl,?_⟩) ?_ ?_
 rotate_left
 ·intro w'
  go_simp
  with_reducible rfl
 rotate_left
 ·simp only [Act.put,sA,sZ,sS]
  rfl
 refine take_ (i:=7) (N:=some 27) (v:=?_) (a':=?_) M09 rfl rfl (by kernel_rfl) (fun _ _ _ h => h) (Or.inl ⟨by rfl,?_⟩) hHeld ?_ ?_
 rotate_left
 ·intro w' s0
  have hu27:=Try.underlying27
  have hd2:w'.cell? ⟨w3.heap.size,2,none⟩ = some (.int .i64 p.kind):=(blk_cell s0.2 2).trans rfl
  have hd3:w'.cell? ⟨w3.heap.size,3,none⟩ = some (.int .u32 p.mine):=(blk_cell s0.2 3).trans rfl
  have hd4:w'.cell? ⟨w3.heap.size,4,none⟩ = some (.int .u32 p.boot):=(blk_cell s0.2 4).trans rfl
  have hd5:w'.cell? ⟨w3.heap.size,5,none⟩ = some (.int .u32 p.yours):=(blk_cell s0.2 5).trans rfl
  have hd6:w'.cell? ⟨w3.heap.size,6,none⟩ = some (.int .u32 p.seq):=(blk_cell s0.2 6).trans rfl
  have hd7:w'.cell? ⟨w3.heap.size,7,none⟩ = some (.int .u32 p.ack):=(blk_cell s0.2 7).trans rfl
  have hd8:w'.cell? ⟨w3.heap.size,8,none⟩ = some (.int .u32 p.stamp):=(blk_cell s0.2 8).trans rfl
  have hd9:w'.cell? ⟨w3.heap.size,9,none⟩ = some (.int .u32 p.echo):=(blk_cell s0.2 9).trans rfl
  have hd10:w'.cell? ⟨w3.heap.size,10,none⟩ = some (.complex .f64 p.zr p.zi):=(blk_cell s0.2 10).trans rfl
  have hd11:w'.cell? ⟨w3.heap.size,11,none⟩ = some (.slice Ab p.body.length cb):=(blk_cell s0.2 11).trans rfl
  clear s0
  go_simp
  try rfl
 rotate_left
 ·simp only [Act.put,sA,sZ,sS]
  rfl
 refine join_ (σ:=Nat × Option Addr × Nat) 2 M00 (fun s => [(28,.tuple #[.agg #[.bool hdb,.bool false,.bool false,.slice s.2.1 0 s.2.2],.int .i64 0]),(19,.tuple #[.agg #[.bool hdb,.bool false,.bool false,.slice s.2.1 0 s.2.2],.int .i64 0]),(29,.agg #[.bool hdb,.bool false,.bool false,.slice s.2.1 0 s.2.2]),(30,.int .i64 0),(7,.pointer (some ⟨s.1,0,none⟩))]) (fun s w' => DVE w B gp ge own (({ X with way:=X.way.eraseIdx i }:Pr).set 1 (endF (X.sd 1) L')) (fun k => k = gp ∨ own 2 k ∨ own 4 k) s.1 (.slice s.2.1 0 s.2.2) [] #[.bool false,.bool false,.bool false,.slice none 0 0] w') ?_ ?_
 rotate_left
 ·intro hcont
  refine two_ (i:=8) (j:=12) (Ni:=some 28) (Nj:=some 7) M0a M0A rfl rfl rfl rfl (by kernel_rfl) (by decide) (by decide) (fun K hK => ?_) (fun K hK => ?_)
  ·skip
   have hQ6:=(HP1.out.sub HBD.out)
   refine goes_ Try.func34 (by kernel_rfl) rfl #[.pointer (some ⟨ge 1,0,none⟩),.int .u32 bt,.agg #[.int .i64 p.kind,.int .u32 p.mine,.int .u32 p.boot,.int .u32 p.yours,.int .u32 p.seq,.int .u32 p.ack,.int .u32 p.stamp,.int .u32 p.echo,.complex .f64 p.zr p.zi,.slice Ab p.body.length cb]] (by rfl) rfl rfl (by (try simp only [List.map_toArray,List.map_cons,List.map_nil]); first | done | rfl) ?_
   have hc9:Calls Try.prog 34 #[.pointer (some ⟨ge 1,0,none⟩),.int .u32 bt,.agg #[.int .i64 p.kind,.int .u32 p.mine,.int .u32 p.boot,.int .u32 p.yours,.int .u32 p.seq,.int .u32 p.ack,.int .u32 p.stamp,.int .u32 p.echo,.complex .f64 p.zr p.zi,.slice Ab p.body.length cb]] w6 _:=take_end (hQ6.e 1 (by decide)) hQ6.hB OK.out bt p HBT.out HPG.out (cs:=cells p (.slice Ab p.body.length cb)) (okp:=own1 5) (pkt_M.2 ⟨_,rfl,Kd.R_kept HR3.out (Kept.of_below HBD.out (fun _ => False)) (fun _ _ hf => hf)⟩) (fun k hx hy => by have:=hQ6.disj 5 (1 + 1) k hx hy; omega)
   refine hc9.mono ?_
   clear hc9
   intro e w7 hT7
   have hT8:TookT w6 B (own1 (1 + 1)) (ge 1) (L',⟨hdb,false,false,[]⟩) e w7:=by
    have hh:=HT.out
    rw [← hh]
    exact hT7
   clear hT7
   obtain ⟨v7,rfl,⟨A7,c7,hv7⟩,hD⟩:=DV.behind (cs:=#[.bool false,.bool false,.bool false,.slice none 0 0]) (s:=1) (by decide) hQ6 HG1.out (HK1.out.below HBD.out) (HB1.out.trans (HBD.out.mono HP1.out.hB)) (fun k hk => (HG1.out.2 _ k hk).elim (fun x => .inl (.inr (.inl x))) .inr) hT8
   have hv8:v7 = .slice A7 0 c7:=by rw [hv7]; rfl
   subst hv8
   clear hv7
   have HD:=Lib.hid hD
   refine ⟨_,rfl,?_⟩
   have hS7:w7.heap[gp]? = some (.cells (prow ({ X with way:=X.way.eraseIdx i }:Pr) ge lv1 wv1) 143 (0,0)) ∧ w7.heap[w3.heap.size]? = some (.cells #[.int .i64 1,.int .u32 bt,.int .i64 p.kind,.int .u32 p.mine,.int .u32 p.boot,.int .u32 p.yours,.int .u32 p.seq,.int .u32 p.ack,.int .u32 p.stamp,.int .u32 p.echo,.complex .f64 p.zr p.zi,.slice Ab p.body.length cb] 150 (0,0)):=⟨blk_kept hHeld.1 (Took.turns hT8).2.1 (HP1.out.gp0 _),blk_kept hHeld.2 (Took.turns hT8).2.1 (fun hx => by have:=HP1.out.lt _ _ hx; omega)⟩
   clear hT8 hD hQ6 hHeld
   refine hK.out _ _ hS7 (fun hHeld => ?_)
   clear hK K hS7
   refine norm_ (a':=?_) ?_ ?_
   rotate_left
   ·show Act.put _ (some 28) _ = _
    simp only [Act.put,sA,sZ,sS]
    rfl
   refine pure_ (i:=9) (N:=some 19) (v:=?_) (a':=?_) M0b rfl rfl (by kernel_rfl) (fun _ _ _ h => h) (Or.inl ⟨by rfl,?_⟩) ?_ ?_
   rotate_left
   ·intro w'
    go_simp
    with_reducible rfl
   rotate_left
   ·simp only [Act.put,sA,sZ,sS]
    rfl
   refine pure_ (i:=10) (N:=some 29) (v:=?_) (a':=?_) M0c rfl rfl (by kernel_rfl) (fun _ _ _ h => h) (Or.inl ⟨by rfl,?_⟩) ?_ ?_
   rotate_left
   ·intro w'
    go_simp
    with_reducible rfl
   rotate_left
   ·simp only [Act.put,sA,sZ,sS]
    rfl
   refine pure_ (i:=11) (N:=some 30) (v:=?_) (a':=?_) M0d rfl rfl (by kernel_rfl) (fun _ _ _ h => h) (Or.inl ⟨by rfl,?_⟩) ?_ ?_
   rotate_left
   ·intro w'
    go_simp
    with_reducible rfl
   rotate_left
   ·simp only [Act.put,sA,sZ,sS]
    rfl
   refine one_ (i:=12) (N:=some 7) M00 rfl rfl (by kernel_rfl) (by decide) (fun K hK => ?_)
   refine box_step (by rfl) (N:=7) rfl (cs:=#[.bool false,.bool false,.bool false,.slice none 0 0]) (t:=56) (by first | (go_simp; done) | (go_simp; rfl)) ?_
   intro g7 hg7 w8 hbx hb8
   have hS8:w8.heap[gp]? = some (.cells (prow ({ X with way:=X.way.eraseIdx i }:Pr) ge lv1 wv1) 143 (0,0)) ∧ w8.heap[w3.heap.size]? = some (.cells #[.int .i64 1,.int .u32 bt,.int .i64 p.kind,.int .u32 p.mine,.int .u32 p.boot,.int .u32 p.yours,.int .u32 p.seq,.int .u32 p.ack,.int .u32 p.stamp,.int .u32 p.echo,.complex .f64 p.zr p.zi,.slice Ab p.body.length cb] 150 (0,0)):=⟨(hb8.block gp (blk_lt hHeld.1)).trans hHeld.1,(hb8.block _ (blk_lt hHeld.2)).trans hHeld.2⟩
   have HD8:=Lib.hid (HD.out w8 g7 hg7 hbx hb8)
   clear hbx hb8 HD hHeld hg7
   refine hK.out _ _ hS8 (fun hHeld => ?_)
   clear hK K hS8
   refine norm_ (a':=?_) ?_ ?_
   rotate_left
   ·show Act.put _ (some 7) _ = _
    simp only [Act.put,sA,sZ,sS]
    rfl
   have h9:=hcont (g7,A7,c7) _ HD8.out
   simp only [putAll,Act.put,sA,sZ,sS] at h9
   exact h9
  ·skip
   refine box_step (by rfl) (N:=7) rfl (cs:=#[.bool false,.bool false,.bool false,.slice none 0 0]) (t:=56) (by first | (go_simp; done) | (go_simp; rfl)) ?_
   intro g7 hg7 w8 hbx hb8
   have hS8:w8.heap[gp]? = some (.cells (prow ({ X with way:=X.way.eraseIdx i }:Pr) ge lv1 wv1) 143 (0,0)) ∧ w8.heap[w3.heap.size]? = some (.cells #[.int .i64 1,.int .u32 bt,.int .i64 p.kind,.int .u32 p.mine,.int .u32 p.boot,.int .u32 p.yours,.int .u32 p.seq,.int .u32 p.ack,.int .u32 p.stamp,.int .u32 p.echo,.complex .f64 p.zr p.zi,.slice Ab p.body.length cb] 150 (0,0)):=⟨(hb8.block gp (blk_lt hHeld.1)).trans hHeld.1,(hb8.block _ (blk_lt hHeld.2)).trans hHeld.2⟩
   have HQ8:=Lib.hid ((HP1.out.sub HBD.out).sub hb8)
   have hl6:=blk_lt (HP1.out.sub HBD.out).blk
   have hz6:=HBD.out.size
   have hz3:=HK1.out.1
   have HH8:=Lib.hid (show w8.heap[g7]? = some (.cells #[.bool false,.bool false,.bool false,.slice none 0 0] 56 (0,0)) ∧ (g7 ≠ gp ∧ ∀ i,¬ own1 i g7) ∧ w.heap.size ≤ g7 from ⟨hbx,⟨by omega,fun i hi => by have:=(HP1.out.sub HBD.out).lt i g7 hi; omega⟩,by omega⟩)
   have HB8:=Lib.hid hb8
   clear hbx hl6 hz6 hz3 hHeld hg7
   clear hb8
   refine hK.out _ _ hS8 (fun hHeld => ?_)
   clear hK K hS8
   refine norm_ (a':=?_) ?_ ?_
   rotate_left
   ·show Act.put _ (some 7) _ = _
    simp only [Act.put,sA,sZ,sS]
    rfl
   refine one_ (i:=8) (N:=some 28) M0B rfl rfl (by kernel_rfl) (by decide) (fun K hK => ?_)
   have hQ6:=HQ8.out
   refine goes_ Try.func34 (by kernel_rfl) rfl #[.pointer (some ⟨ge 1,0,none⟩),.int .u32 bt,.agg #[.int .i64 p.kind,.int .u32 p.mine,.int .u32 p.boot,.int .u32 p.yours,.int .u32 p.seq,.int .u32 p.ack,.int .u32 p.stamp,.int .u32 p.echo,.complex .f64 p.zr p.zi,.slice Ab p.body.length cb]] (by rfl) rfl rfl (by (try simp only [List.map_toArray,List.map_cons,List.map_nil]); first | done | rfl) ?_
   have hc9:Calls Try.prog 34 #[.pointer (some ⟨ge 1,0,none⟩),.int .u32 bt,.agg #[.int .i64 p.kind,.int .u32 p.mine,.int .u32 p.boot,.int .u32 p.yours,.int .u32 p.seq,.int .u32 p.ack,.int .u32 p.stamp,.int .u32 p.echo,.complex .f64 p.zr p.zi,.slice Ab p.body.length cb]] w8 _:=take_end (hQ6.e 1 (by decide)) hQ6.hB OK.out bt p HBT.out HPG.out (cs:=cells p (.slice Ab p.body.length cb)) (okp:=own1 5) (pkt_M.2 ⟨_,rfl,Kd.R_kept HR3.out (Kept.of_below (HBD.out.trans (HB8.out.mono HBD.out.size)) (fun _ => False)) (fun _ _ hf => hf)⟩) (fun k hx hy => by have:=hQ6.disj 5 (1 + 1) k hx hy; omega)
   refine hc9.mono ?_
   clear hc9
   intro e w7 hT7
   have hT8:TookT w8 B (own1 (1 + 1)) (ge 1) (L',⟨hdb,false,false,[]⟩) e w7:=by
    have hh:=HT.out
    rw [← hh]
    exact hT7
   clear hT7
   obtain ⟨v7,rfl,⟨A7,c7,hv7⟩,hD⟩:=DV.ahead (s:=1) (by decide) hQ6 HG1.out (HK1.out.below (HBD.out.trans (HB8.out.mono HBD.out.size))) (HB1.out.trans ((HBD.out.trans (HB8.out.mono HBD.out.size)).mono HP1.out.hB)) (fun k hk => (HG1.out.2 _ k hk).elim (fun x => .inl (.inr (.inl x))) .inr) HH8.out.1 HH8.out.2.1 HH8.out.2.2 hT8
   have hv8:v7 = .slice A7 0 c7:=by rw [hv7]; rfl
   subst hv8
   clear hv7
   have HD:=Lib.hid hD
   refine ⟨_,rfl,?_⟩
   have hS7:w7.heap[gp]? = some (.cells (prow ({ X with way:=X.way.eraseIdx i }:Pr) ge lv1 wv1) 143 (0,0)) ∧ w7.heap[w3.heap.size]? = some (.cells #[.int .i64 1,.int .u32 bt,.int .i64 p.kind,.int .u32 p.mine,.int .u32 p.boot,.int .u32 p.yours,.int .u32 p.seq,.int .u32 p.ack,.int .u32 p.stamp,.int .u32 p.echo,.complex .f64 p.zr p.zi,.slice Ab p.body.length cb] 150 (0,0)):=⟨blk_kept hHeld.1 (Took.turns hT8).2.1 (HP1.out.gp0 _),blk_kept hHeld.2 (Took.turns hT8).2.1 (fun hx => by have:=HP1.out.lt _ _ hx; omega)⟩
   clear hT8 hD hQ6 hHeld
   refine hK.out _ _ hS7 (fun hHeld => ?_)
   clear hK K hS7
   refine norm_ (a':=?_) ?_ ?_
   rotate_left
   ·show Act.put _ (some 28) _ = _
    simp only [Act.put,sA,sZ,sS]
    rfl
   refine pure_ (i:=9) (N:=some 19) (v:=?_) (a':=?_) M0C rfl rfl (by kernel_rfl) (fun _ _ _ h => h) (Or.inl ⟨by rfl,?_⟩) ?_ ?_
   rotate_left
   ·intro w'
    go_simp
    with_reducible rfl
   rotate_left
   ·simp only [Act.put,sA,sZ,sS]
    rfl
   refine pure_ (i:=10) (N:=some 29) (v:=?_) (a':=?_) M0D rfl rfl (by kernel_rfl) (fun _ _ _ h => h) (Or.inl ⟨by rfl,?_⟩) ?_ ?_
   rotate_left
   ·intro w'
    go_simp
    with_reducible rfl
   rotate_left
   ·simp only [Act.put,sA,sZ,sS]
    rfl
   refine pure_ (i:=11) (N:=some 30) (v:=?_) (a':=?_) M00 rfl rfl (by kernel_rfl) (fun _ _ _ h => h) (Or.inl ⟨by rfl,?_⟩) ?_ ?_
   rotate_left
   ·intro w'
    go_simp
    with_reducible rfl
   rotate_left
   ·simp only [Act.put,sA,sZ,sS]
    rfl
   have h9:=hcont (g7,A7,c7) _ HD.out
   simp only [putAll,Act.put,sA,sZ,sS] at h9
   exact h9
 intro s9 w9 hF
 obtain ⟨g7,A7,c7⟩:=s9
 obtain ⟨own2,lv2,wv2,okb,hD⟩:=hF
 have HD:=Lib.hid hD
 clear hD
 refine norm_ (a':=?_) ?_ ?_
 rotate_left
 ·show putAll _ _ = _
  simp only [putAll,Act.put,sA,sZ,sS]
  rfl
 have hc0:w9.cell? ⟨g7,0,none⟩ = some (.bool false):=(blk_cell HD.out.t7 0).trans rfl
 have hf0:=blk_frozen HD.out.t7 0
 have hc1:w9.cell? ⟨g7,1,none⟩ = some (.bool false):=(blk_cell HD.out.t7 1).trans rfl
 have hf1:=blk_frozen HD.out.t7 1
 have hc2:w9.cell? ⟨g7,2,none⟩ = some (.bool false):=(blk_cell HD.out.t7 2).trans rfl
 have hf2:=blk_frozen HD.out.t7 2
 have hc3:w9.cell? ⟨g7,3,none⟩ = some (.slice none 0 0):=(blk_cell HD.out.t7 3).trans rfl
 have hf3:=blk_frozen HD.out.t7 3
 refine last_ (i:=13) (N:=none) M0e rfl rfl (by kernel_rfl) (by decide) (fun K hK => ?_)
 refine skip_F (fun wz => wz.heap[g7]? = some (.cells #[.bool hdb,.bool false,.bool false,.slice A7 0 c7] 56 (0,0)) ∧ Steps.At g7 w9 wz) (by rfl) rfl ⟨_,by go_simp; rfl,?_,?_⟩ (fun w10 hF => ?_)
 ·skip
  have hb1:=blk_put HD.out.t7 0 (.bool hdb) (cs':=#[.bool hdb,.bool false,.bool false,.slice none 0 0]) rfl
  have hb2:=blk_put hb1 1 (.bool false) (cs':=#[.bool hdb,.bool false,.bool false,.slice none 0 0]) rfl
  have hb3:=blk_put hb2 2 (.bool false) (cs':=#[.bool hdb,.bool false,.bool false,.slice none 0 0]) rfl
  have hb4:=blk_put hb3 3 (.slice A7 0 c7) (cs':=#[.bool hdb,.bool false,.bool false,.slice A7 0 c7]) rfl
  exact hb4
 ·repeat (first | (with_reducible exact Steps.At.refl _ _) | refine Steps.At.set ?_ _ _)
 have HD10:=Lib.hid (HD.out.write H.out.hB hF.1 hF.2)
 clear hF HD hc0 hf0 hc1 hf1 hc2 hf2 hc3 hf3
 refine hK.out _ _ ?_
 clear hK K
 refine pure_ (i:=14) (N:=some 8) (v:=?_) (a':=?_) M0f rfl rfl (by kernel_rfl) (fun _ _ _ h => h) (Or.inl ⟨by rfl,?_⟩) ?_ ?_
 rotate_left
 ·intro w'
  go_simp
  with_reducible rfl
 rotate_left
 ·simp only [Act.put,sA,sZ,sS]
  rfl
 refine done_ (by kernel_rfl) ?_
 have ht1:w10.cell? ⟨g7,1,none⟩ = some (.bool false):=(blk_cell HD10.out.t7 1).trans rfl
 have ht2:w10.cell? ⟨g7,2,none⟩ = some (.bool false):=(blk_cell HD10.out.t7 2).trans rfl
 have ht3:w10.cell? ⟨g7,3,none⟩ = some (.slice A7 0 c7):=(blk_cell HD10.out.t7 3).trans rfl
 go_wp2_with fail
 all_goals (go_ret; exact ⟨rfl,own2,lv2,wv2,HD10.out.at_,HD10.out.grew,HD10.out.kept,HD10.out.below⟩)
set_option maxRecDepth 100000 in
set_option maxHeartbeats 4000000 in
theorem deliver_d_0 {w:World} {B gp:Nat} {ge:Nat → Nat} {own:Nat → Nat → Prop} {X:Pr} {lv:Nat → Value} {wv:Value} (h:PAt w B gp ge own X lv wv) (i:Nat) (hi:i < X.way.length) (hlw:X.way.length ≤ 1024) (bt:Int) (p:Pkt) (hf:X.way.getD i nilF = ⟨0,bt,p⟩) (hbt:0 < bt ∧ bt < 4294967296) (hp:p.Good) (hok:(X.sd 0).end_.Ok) (hll:(X.sd 0).log.length ≤ 1000000) (kind side:Int) (vb:Value) (L':Lk) (hdb:Bool) (hT:takeF (X.sd 0).end_ bt p = (L',⟨hdb,false,true,[]⟩)) :
  Calls Try.prog 112 #[.pointer (some ⟨gp,0,none⟩),.agg #[.int .i64 kind,.int .i64 side,.int .i64 (i:Int),vb]] w fun e w' => e = .returned (.int .i64 0) ∧ Moves w B gp ge own (({ X with way:=X.way.eraseIdx i }:Pr).set 0 (noteF (endF (X.sd 0) L') 2 [])) (fun k => k = gp ∨ own 1 k ∨ own 3 k) w':=by
 have hba:Below w.heap.size w (w.alloc (.cells #[.int .i64 kind,.int .i64 side,.int .i64 (i:Int),vb] 72)):=(Below.refl _ _).alloc (Nat.le_refl _) _
 have hc2:(w.alloc (.cells #[.int .i64 kind,.int .i64 side,.int .i64 (i:Int),vb] 72)).cell? ⟨w.heap.size,2,none⟩ = some (.int .i64 (i:Int)):=(blk_cell (heap_alloc_new w _) 2).trans rfl
 have HX1:=Lib.hid (h.sub hba)
 have HBA:=Lib.hid hba
 have H:=Lib.hid h
 have HI:=Lib.hid hi
 have HL:=Lib.hid hlw
 have HFF:=Lib.hid hf
 have HBT:=Lib.hid hbt
 have HPG:=Lib.hid hp
 have OK:=Lib.hid hok
 have HLL:=Lib.hid hll
 have HT:=Lib.hid hT
 clear h hba hi hlw hf hbt hp hok hll hT
 go_enter Try.func112,Try.ntmps112
 go_wp2_with (first | (go_at_call 128; (have hc:=out_p HX1.out i HI.out HL.out); rw [HFF.out] at hc; (with_reducible refine hc.mono ?_); clear hc; rintro e w3 ⟨b3,rfl,hR3,hM3⟩; (obtain ⟨Ab,cb,hb3⟩:=Kd.R_slice hR3); (subst hb3); (obtain ⟨own1,lv1,wv1,hP1,hg1,hk1,hb1⟩:=hM3); (have HP1:=Lib.hid hP1); (have HG1:=Lib.hid ((Grew.refl w own).trans HBA.out.size hg1)); (have HK1:=Lib.hid (show Kept w w3 (fun k => k = gp ∨ own 1 k ∨ own 3 k) from (Kept.of_below HBA.out _).then_ hk1 (fun k hk => .inl (.inl hk)))); (have HB1:=Lib.hid ((HBA.out.mono H.out.hB).trans hb1)); (have HR3:=Lib.hid (Kd.R_mono hR3 (fun k hk => hg1.1 5 k hk))); (have HZ3:=Lib.hid (heap_alloc_new w3 (.cells #[.int .i64 0,.int .u32 0,.int .i64 0,.int .u32 0,.int .u32 0,.int .u32 0,.int .u32 0,.int .u32 0,.int .u32 0,.int .u32 0,.complex .f64 0 0,.slice none 0 0] 150))); (have HZB:=Lib.hid (show Below w3.heap.size w3 (w3.alloc (.cells #[.int .i64 0,.int .u32 0,.int .i64 0,.int .u32 0,.int .u32 0,.int .u32 0,.int .u32 0,.int .u32 0,.int .u32 0,.int .u32 0,.complex .f64 0 0,.slice none 0 0] 150)) from (Below.refl _ _).alloc (Nat.le_refl _) _)); (clear hP1 hg1 hk1 hb1 hR3)) | ((with_reducible refine gate_ (.store 150 (.tmp 5) (.tmp 12)) rfl ?_); (refine store_row_F rfl rfl 150 (.tmp 5) (.tmp 12) rfl w3.heap.size #[.int .i64 0,.int .u32 bt,.int .i64 p.kind,.int .u32 p.mine,.int .u32 p.boot,.int .u32 p.yours,.int .u32 p.seq,.int .u32 p.ack,.int .u32 p.stamp,.int .u32 p.echo,.complex .f64 p.zr p.zi,.slice Ab p.body.length cb] rfl rfl 150 _ HZ3.out (by kernel_rfl) rfl (by kernel_rfl) ?_); (intro w4 hb4 hat4); (have HB4:=Lib.hid hb4); (have HBL:=Lib.hid (hat4.below HZB.out (Nat.le_refl _))); (have hd0:w4.cell? ⟨w3.heap.size,0,none⟩ = some (.int .i64 0):=(blk_cell HB4.out 0).trans rfl); (clear hb4 hat4)))
 go_quiet (fail)
 rename Nat => nq1
 go_wp2_with fail
 have hbd:=bl_drew (bl_drewN HBL.out nq1)
 have hSS:(w4.drewN nq1).drew.heap[gp]? = some (.cells (prow ({ X with way:=X.way.eraseIdx i }:Pr) ge lv1 wv1) 143 (0,0)) ∧ (w4.drewN nq1).drew.heap[w3.heap.size]? = some (.cells #[.int .i64 0,.int .u32 bt,.int .i64 p.kind,.int .u32 p.mine,.int .u32 p.boot,.int .u32 p.yours,.int .u32 p.seq,.int .u32 p.ack,.int .u32 p.stamp,.int .u32 p.echo,.complex .f64 p.zr p.zi,.slice Ab p.body.length cb] 150 (0,0)):=⟨(HP1.out.sub hbd).blk,HB4.out⟩
 clear HB4 HBL HZ3 HZB hd0
 refine start_ (n:=15) (S:=fun w' => w'.heap[gp]? = some (.cells (prow ({ X with way:=X.way.eraseIdx i }:Pr) ge lv1 wv1) 143 (0,0)) ∧ w'.heap[w3.heap.size]? = some (.cells #[.int .i64 0,.int .u32 bt,.int .i64 p.kind,.int .u32 p.mine,.int .u32 p.boot,.int .u32 p.yours,.int .u32 p.seq,.int .u32 p.ack,.int .u32 p.stamp,.int .u32 p.echo,.complex .f64 p.zr p.zi,.slice Ab p.body.length cb] 150 (0,0))) (ds:=[13]) M01 (by kernel_rfl) rfl rfl (hSS) (fun hHeld => ?_)
 generalize (w4.drewN nq1).drew = w6 at hbd hHeld ⊢
 have HBD:=Lib.hid hbd
 clear hbd
 refine pure_ (i:=0) (N:=some 20) (v:=?_) (a':=?_) M02 rfl rfl (by kernel_rfl) (fun _ _ _ h => h) (Or.inl ⟨by rfl,?_⟩) ?_ ?_
 rotate_left
 ·intro w'
  go_simp
  with_reducible rfl
 rotate_left
 ·simp only [Act.put,sA,sZ,sS]
  rfl
 refine pure_ (i:=1) (N:=some 21) (v:=?_) (a':=?_) M03 rfl rfl (by kernel_rfl) (fun _ _ _ h => h) (Or.inl ⟨by rfl,?_⟩) ?_ ?_
 rotate_left
 ·intro w'
  go_simp
  with_reducible rfl
 rotate_left
 ·simp only [Act.put,sA,sZ,sS]
  rfl
 refine pure_ (i:=2) (N:=some 22) (v:=?_) (a':=?_) M04 rfl rfl (by kernel_rfl) (fun _ _ _ h => h) (Or.inl ⟨by rfl,?_⟩) ?_ ?_
 rotate_left
 ·intro w'
  go_simp
  rfl
 rotate_left
 ·simp only [Act.put,sA,sZ,sS]
  rfl
 refine take_ (i:=3) (N:=some 23) (v:=?_) (a':=?_) M05 rfl rfl (by kernel_rfl) (fun _ _ _ h => h) (Or.inl ⟨by rfl,?_⟩) hHeld ?_ ?_
 rotate_left
 ·intro w' s0
  have hc2:w'.cell? ⟨gp,0,none⟩ = some (.pointer (some ⟨ge 0,0,none⟩)):=(blk_cell s0.1 0).trans rfl
  clear s0
  go_simp
  rfl
 rotate_left
 ·simp only [Act.put,sA,sZ,sS]
  rfl
 refine pure_ (i:=4) (N:=some 24) (v:=?_) (a':=?_) M06 rfl rfl (by kernel_rfl) (fun _ _ _ h => h) (Or.inl ⟨by rfl,?_⟩) ?_ ?_
 rotate_left
 ·intro w'
  go_simp
  with_reducible rfl
 rotate_left
 ·simp only [Act.put,sA,sZ,sS]
  rfl
 refine take_ (i:=5) (N:=some 25) (v:=?_) (a':=?_) M07 rfl rfl (by kernel_rfl) (fun _ _ _ h => h) (Or.inl ⟨by rfl,?_⟩) hHeld ?_ ?_
 rotate_left
 ·intro w' s0
  have hc3:w'.cell? ⟨w3.heap.size,1,none⟩ = some (.int .u32 bt):=(blk_cell s0.2 1).trans rfl
  clear s0
  go_simp
  with_reducible rfl
 rotate_left
 ·simp only [Act.put,sA,sZ,sS]
  rfl
 refine pure_ (i:=6) (N:=some 26) (v:=?_) (a':=?_) M08 rfl rfl (by kernel_rfl) (fun _ _ _ h => h) (Or.inl ⟨by rfl,?_⟩) ?_ ?_
 rotate_left
 ·intro w'
  go_simp
  with_reducible rfl
 rotate_left
 ·simp only [Act.put,sA,sZ,sS]
  rfl
 refine take_ (i:=7) (N:=some 27) (v:=?_) (a':=?_) M09 rfl rfl (by kernel_rfl) (fun _ _ _ h => h) (Or.inl ⟨by rfl,?_⟩) hHeld ?_ ?_
 rotate_left
 ·intro w' s0
  have hu27:=Try.underlying27
  have hd2:w'.cell? ⟨w3.heap.size,2,none⟩ = some (.int .i64 p.kind):=(blk_cell s0.2 2).trans rfl
  have hd3:w'.cell? ⟨w3.heap.size,3,none⟩ = some (.int .u32 p.mine):=(blk_cell s0.2 3).trans rfl
  have hd4:w'.cell? ⟨w3.heap.size,4,none⟩ = some (.int .u32 p.boot):=(blk_cell s0.2 4).trans rfl
  have hd5:w'.cell? ⟨w3.heap.size,5,none⟩ = some (.int .u32 p.yours):=(blk_cell s0.2 5).trans rfl
  have hd6:w'.cell? ⟨w3.heap.size,6,none⟩ = some (.int .u32 p.seq):=(blk_cell s0.2 6).trans rfl
  have hd7:w'.cell? ⟨w3.heap.size,7,none⟩ = some (.int .u32 p.ack):=(blk_cell s0.2 7).trans rfl
  have hd8:w'.cell? ⟨w3.heap.size,8,none⟩ = some (.int .u32 p.stamp):=(blk_cell s0.2 8).trans rfl
  have hd9:w'.cell? ⟨w3.heap.size,9,none⟩ = some (.int .u32 p.echo):=(blk_cell s0.2 9).trans rfl
  have hd10:w'.cell? ⟨w3.heap.size,10,none⟩ = some (.complex .f64 p.zr p.zi):=(blk_cell s0.2 10).trans rfl
  have hd11:w'.cell? ⟨w3.heap.size,11,none⟩ = some (.slice Ab p.body.length cb):=(blk_cell s0.2 11).trans rfl
  clear s0
  go_simp
  try rfl
 rotate_left
 ·simp only [Act.put,sA,sZ,sS]
  rfl
 refine join_ (σ:=Nat × Option Addr × Nat) 2 M00 (fun s => [(28,.tuple #[.agg #[.bool hdb,.bool false,.bool true,.slice s.2.1 0 s.2.2],.int .i64 0]),(19,.tuple #[.agg #[.bool hdb,.bool false,.bool true,.slice s.2.1 0 s.2.2],.int .i64 0]),(29,.agg #[.bool hdb,.bool false,.bool true,.slice s.2.1 0 s.2.2]),(30,.int .i64 0),(7,.pointer (some ⟨s.1,0,none⟩))]) (fun s w' => DVE w B gp ge own (({ X with way:=X.way.eraseIdx i }:Pr).set 0 (endF (X.sd 0) L')) (fun k => k = gp ∨ own 1 k ∨ own 3 k) s.1 (.slice s.2.1 0 s.2.2) [] #[.bool false,.bool false,.bool false,.slice none 0 0] w') ?_ ?_
 rotate_left
 ·intro hcont
  refine two_ (i:=8) (j:=12) (Ni:=some 28) (Nj:=some 7) M0a M0A rfl rfl rfl rfl (by kernel_rfl) (by decide) (by decide) (fun K hK => ?_) (fun K hK => ?_)
  ·skip
   have hQ6:=(HP1.out.sub HBD.out)
   refine goes_ Try.func34 (by kernel_rfl) rfl #[.pointer (some ⟨ge 0,0,none⟩),.int .u32 bt,.agg #[.int .i64 p.kind,.int .u32 p.mine,.int .u32 p.boot,.int .u32 p.yours,.int .u32 p.seq,.int .u32 p.ack,.int .u32 p.stamp,.int .u32 p.echo,.complex .f64 p.zr p.zi,.slice Ab p.body.length cb]] (by rfl) rfl rfl (by (try simp only [List.map_toArray,List.map_cons,List.map_nil]); first | done | rfl) ?_
   have hc9:Calls Try.prog 34 #[.pointer (some ⟨ge 0,0,none⟩),.int .u32 bt,.agg #[.int .i64 p.kind,.int .u32 p.mine,.int .u32 p.boot,.int .u32 p.yours,.int .u32 p.seq,.int .u32 p.ack,.int .u32 p.stamp,.int .u32 p.echo,.complex .f64 p.zr p.zi,.slice Ab p.body.length cb]] w6 _:=take_end (hQ6.e 0 (by decide)) hQ6.hB OK.out bt p HBT.out HPG.out (cs:=cells p (.slice Ab p.body.length cb)) (okp:=own1 5) (pkt_M.2 ⟨_,rfl,Kd.R_kept HR3.out (Kept.of_below HBD.out (fun _ => False)) (fun _ _ hf => hf)⟩) (fun k hx hy => by have:=hQ6.disj 5 (1 + 0) k hx hy; omega)
   refine hc9.mono ?_
   clear hc9
   intro e w7 hT7
   have hT8:TookT w6 B (own1 (1 + 0)) (ge 0) (L',⟨hdb,false,true,[]⟩) e w7:=by
    have hh:=HT.out
    rw [← hh]
    exact hT7
   clear hT7
   obtain ⟨v7,rfl,⟨A7,c7,hv7⟩,hD⟩:=DV.behind (cs:=#[.bool false,.bool false,.bool false,.slice none 0 0]) (s:=0) (by decide) hQ6 HG1.out (HK1.out.below HBD.out) (HB1.out.trans (HBD.out.mono HP1.out.hB)) (fun k hk => (HG1.out.2 _ k hk).elim (fun x => .inl (.inr (.inl x))) .inr) hT8
   have hv8:v7 = .slice A7 0 c7:=by rw [hv7]; rfl
   subst hv8
   clear hv7
   have HD:=Lib.hid hD
   refine ⟨_,rfl,?_⟩
   have hS7:w7.heap[gp]? = some (.cells (prow ({ X with way:=X.way.eraseIdx i }:Pr) ge lv1 wv1) 143 (0,0)) ∧ w7.heap[w3.heap.size]? = some (.cells #[.int .i64 0,.int .u32 bt,.int .i64 p.kind,.int .u32 p.mine,.int .u32 p.boot,.int .u32 p.yours,.int .u32 p.seq,.int .u32 p.ack,.int .u32 p.stamp,.int .u32 p.echo,.complex .f64 p.zr p.zi,.slice Ab p.body.length cb] 150 (0,0)):=⟨blk_kept hHeld.1 (Took.turns hT8).2.1 (HP1.out.gp0 _),blk_kept hHeld.2 (Took.turns hT8).2.1 (fun hx => by have:=HP1.out.lt _ _ hx; omega)⟩
   clear hT8 hD hQ6 hHeld
   refine hK.out _ _ hS7 (fun hHeld => ?_)
   clear hK K hS7
   refine norm_ (a':=?_) ?_ ?_
   rotate_left
   ·show Act.put _ (some 28) _ = _
    simp only [Act.put,sA,sZ,sS]
    rfl
   refine pure_ (i:=9) (N:=some 19) (v:=?_) (a':=?_) M0b rfl rfl (by kernel_rfl) (fun _ _ _ h => h) (Or.inl ⟨by rfl,?_⟩) ?_ ?_
   rotate_left
   ·intro w'
    go_simp
    with_reducible rfl
   rotate_left
   ·simp only [Act.put,sA,sZ,sS]
    rfl
   refine pure_ (i:=10) (N:=some 29) (v:=?_) (a':=?_) M0c rfl rfl (by kernel_rfl) (fun _ _ _ h => h) (Or.inl ⟨by rfl,?_⟩) ?_ ?_
   rotate_left
   ·intro w'
    go_simp
    with_reducible rfl
   rotate_left
   ·simp only [Act.put,sA,sZ,sS]
    rfl
   refine pure_ (i:=11) (N:=some 30) (v:=?_) (a':=?_) M0d rfl rfl (by kernel_rfl) (fun _ _ _ h => h) (Or.inl ⟨by rfl,?_⟩) ?_ ?_
   rotate_left
   ·intro w'
    go_simp
    with_reducible rfl
   rotate_left
   ·simp only [Act.put,sA,sZ,sS]
    rfl
   refine one_ (i:=12) (N:=some 7) M00 rfl rfl (by kernel_rfl) (by decide) (fun K hK => ?_)
   refine box_step (by rfl) (N:=7) rfl (cs:=#[.bool false,.bool false,.bool false,.slice none 0 0]) (t:=56) (by first | (go_simp; done) | (go_simp; rfl)) ?_
   intro g7 hg7 w8 hbx hb8
   have hS8:w8.heap[gp]? = some (.cells (prow ({ X with way:=X.way.eraseIdx i }:Pr) ge lv1 wv1) 143 (0,0)) ∧ w8.heap[w3.heap.size]? = some (.cells #[.int .i64 0,.int .u32 bt,.int .i64 p.kind,.int .u32 p.mine,.int .u32 p.boot,.int .u32 p.yours,.int .u32 p.seq,.int .u32 p.ack,.int .u32 p.stamp,.int .u32 p.echo,.complex .f64 p.zr p.zi,.slice Ab p.body.length cb] 150 (0,0)):=⟨(hb8.block gp (blk_lt hHeld.1)).trans hHeld.1,(hb8.block _ (blk_lt hHeld.2)).trans hHeld.2⟩
   have HD8:=Lib.hid (HD.out w8 g7 hg7 hbx hb8)
   clear hbx hb8 HD hHeld hg7
   refine hK.out _ _ hS8 (fun hHeld => ?_)
   clear hK K hS8
   refine norm_ (a':=?_) ?_ ?_
   rotate_left
   ·show Act.put _ (some 7) _ = _
    simp only [Act.put,sA,sZ,sS]
    rfl
   have h9:=hcont (g7,A7,c7) _ HD8.out
   simp only [putAll,Act.put,sA,sZ,sS] at h9
   exact h9
  ·skip
   refine box_step (by rfl) (N:=7) rfl (cs:=#[.bool false,.bool false,.bool false,.slice none 0 0]) (t:=56) (by first | (go_simp; done) | (go_simp; rfl)) ?_
   intro g7 hg7 w8 hbx hb8
   have hS8:w8.heap[gp]? = some (.cells (prow ({ X with way:=X.way.eraseIdx i }:Pr) ge lv1 wv1) 143 (0,0)) ∧ w8.heap[w3.heap.size]? = some (.cells #[.int .i64 0,.int .u32 bt,.int .i64 p.kind,.int .u32 p.mine,.int .u32 p.boot,.int .u32 p.yours,.int .u32 p.seq,.int .u32 p.ack,.int .u32 p.stamp,.int .u32 p.echo,.complex .f64 p.zr p.zi,.slice Ab p.body.length cb] 150 (0,0)):=⟨(hb8.block gp (blk_lt hHeld.1)).trans hHeld.1,(hb8.block _ (blk_lt hHeld.2)).trans hHeld.2⟩
   have HQ8:=Lib.hid ((HP1.out.sub HBD.out).sub hb8)
   have hl6:=blk_lt (HP1.out.sub HBD.out).blk
   have hz6:=HBD.out.size
   have hz3:=HK1.out.1
   have HH8:=Lib.hid (show w8.heap[g7]? = some (.cells #[.bool false,.bool false,.bool false,.slice none 0 0] 56 (0,0)) ∧ (g7 ≠ gp ∧ ∀ i,¬ own1 i g7) ∧ w.heap.size ≤ g7 from ⟨hbx,⟨by omega,fun i hi => by have:=(HP1.out.sub HBD.out).lt i g7 hi; omega⟩,by omega⟩)
   have HB8:=Lib.hid hb8
   clear hbx hl6 hz6 hz3 hHeld hg7
   clear hb8
   refine hK.out _ _ hS8 (fun hHeld => ?_)
   clear hK K hS8
   refine norm_ (a':=?_) ?_ ?_
   rotate_left
   ·show Act.put _ (some 7) _ = _
    simp only [Act.put,sA,sZ,sS]
    rfl
   refine one_ (i:=8) (N:=some 28) M0B rfl rfl (by kernel_rfl) (by decide) (fun K hK => ?_)
   have hQ6:=HQ8.out
   refine goes_ Try.func34 (by kernel_rfl) rfl #[.pointer (some ⟨ge 0,0,none⟩),.int .u32 bt,.agg #[.int .i64 p.kind,.int .u32 p.mine,.int .u32 p.boot,.int .u32 p.yours,.int .u32 p.seq,.int .u32 p.ack,.int .u32 p.stamp,.int .u32 p.echo,.complex .f64 p.zr p.zi,.slice Ab p.body.length cb]] (by rfl) rfl rfl (by (try simp only [List.map_toArray,List.map_cons,List.map_nil]); first | done | rfl) ?_
   have hc9:Calls Try.prog 34 #[.pointer (some ⟨ge 0,0,none⟩),.int .u32 bt,.agg #[.int .i64 p.kind,.int .u32 p.mine,.int .u32 p.boot,.int .u32 p.yours,.int .u32 p.seq,.int .u32 p.ack,.int .u32 p.stamp,.int .u32 p.echo,.complex .f64 p.zr p.zi,.slice Ab p.body.length cb]] w8 _:=take_end (hQ6.e 0 (by decide)) hQ6.hB OK.out bt p HBT.out HPG.out (cs:=cells p (.slice Ab p.body.length cb)) (okp:=own1 5) (pkt_M.2 ⟨_,rfl,Kd.R_kept HR3.out (Kept.of_below (HBD.out.trans (HB8.out.mono HBD.out.size)) (fun _ => False)) (fun _ _ hf => hf)⟩) (fun k hx hy => by have:=hQ6.disj 5 (1 + 0) k hx hy; omega)
   refine hc9.mono ?_
   clear hc9
   intro e w7 hT7
   have hT8:TookT w8 B (own1 (1 + 0)) (ge 0) (L',⟨hdb,false,true,[]⟩) e w7:=by
    have hh:=HT.out
    rw [← hh]
    exact hT7
   clear hT7
   obtain ⟨v7,rfl,⟨A7,c7,hv7⟩,hD⟩:=DV.ahead (s:=0) (by decide) hQ6 HG1.out (HK1.out.below (HBD.out.trans (HB8.out.mono HBD.out.size))) (HB1.out.trans ((HBD.out.trans (HB8.out.mono HBD.out.size)).mono HP1.out.hB)) (fun k hk => (HG1.out.2 _ k hk).elim (fun x => .inl (.inr (.inl x))) .inr) HH8.out.1 HH8.out.2.1 HH8.out.2.2 hT8
   have hv8:v7 = .slice A7 0 c7:=by rw [hv7]; rfl
   subst hv8
   clear hv7
   have HD:=Lib.hid hD
   refine ⟨_,rfl,?_⟩
   have hS7:w7.heap[gp]? = some (.cells (prow ({ X with way:=X.way.eraseIdx i }:Pr) ge lv1 wv1) 143 (0,0)) ∧ w7.heap[w3.heap.size]? = some (.cells #[.int .i64 0,.int .u32 bt,.int .i64 p.kind,.int .u32 p.mine,.int .u32 p.boot,.int .u32 p.yours,.int .u32 p.seq,.int .u32 p.ack,.int .u32 p.stamp,.int .u32 p.echo,.complex .f64 p.zr p.zi,.slice Ab p.body.length cb] 150 (0,0)):=⟨blk_kept hHeld.1 (Took.turns hT8).2.1 (HP1.out.gp0 _),blk_kept hHeld.2 (Took.turns hT8).2.1 (fun hx => by have:=HP1.out.lt _ _ hx; omega)⟩
   clear hT8 hD hQ6 hHeld
   refine hK.out _ _ hS7 (fun hHeld => ?_)
   clear hK K hS7
   refine norm_ (a':=?_) ?_ ?_
   rotate_left
   ·show Act.put _ (some 28) _ = _
    simp only [Act.put,sA,sZ,sS]
    rfl
   refine pure_ (i:=9) (N:=some 19) (v:=?_) (a':=?_) M0C rfl rfl (by kernel_rfl) (fun _ _ _ h => h) (Or.inl ⟨by rfl,?_⟩) ?_ ?_
   rotate_left
   ·intro w'
    go_simp
    with_reducible rfl
   rotate_left
   ·simp only [Act.put,sA,sZ,sS]
    rfl
   refine pure_ (i:=10) (N:=some 29) (v:=?_) (a':=?_) M0D rfl rfl (by kernel_rfl) (fun _ _ _ h => h) (Or.inl ⟨by rfl,?_⟩) ?_ ?_
   rotate_left
   ·intro w'
    go_simp
    with_reducible rfl
   rotate_left
   ·simp only [Act.put,sA,sZ,sS]
    rfl
   refine pure_ (i:=11) (N:=some 30) (v:=?_) (a':=?_) M00 rfl rfl (by kernel_rfl) (fun _ _ _ h => h) (Or.inl ⟨by rfl,?_⟩) ?_ ?_
   rotate_left
   ·intro w'
    go_simp
    with_reducible rfl
   rotate_left
   ·simp only [Act.put,sA,sZ,sS]
    rfl
   have h9:=hcont (g7,A7,c7) _ HD.out
   simp only [putAll,Act.put,sA,sZ,sS] at h9
   exact h9
 intro s9 w9 hF
 obtain ⟨g7,A7,c7⟩:=s9
 obtain ⟨own2,lv2,wv2,okb,hD⟩:=hF
 have HD:=Lib.hid hD
 clear hD
 refine norm_ (a':=?_) ?_ ?_
 rotate_left
 ·show putAll _ _ = _
  simp only [putAll,Act.put,sA,sZ,sS]
  rfl
 have hc0:w9.cell? ⟨g7,0,none⟩ = some (.bool false):=(blk_cell HD.out.t7 0).trans rfl
 have hf0:=blk_frozen HD.out.t7 0
 have hc1:w9.cell? ⟨g7,1,none⟩ = some (.bool false):=(blk_cell HD.out.t7 1).trans rfl
 have hf1:=blk_frozen HD.out.t7 1
 have hc2:w9.cell? ⟨g7,2,none⟩ = some (.bool false):=(blk_cell HD.out.t7 2).trans rfl
 have hf2:=blk_frozen HD.out.t7 2
 have hc3:w9.cell? ⟨g7,3,none⟩ = some (.slice none 0 0):=(blk_cell HD.out.t7 3).trans rfl
 have hf3:=blk_frozen HD.out.t7 3
 refine last_ (i:=13) (N:=none) M0e rfl rfl (by kernel_rfl) (by decide) (fun K hK => ?_)
 refine skip_F (fun wz => wz.heap[g7]? = some (.cells #[.bool hdb,.bool false,.bool true,.slice A7 0 c7] 56 (0,0)) ∧ Steps.At g7 w9 wz) (by rfl) rfl ⟨_,by go_simp; rfl,?_,?_⟩ (fun w10 hF => ?_)
 ·skip
  have hb1:=blk_put HD.out.t7 0 (.bool hdb) (cs':=#[.bool hdb,.bool false,.bool false,.slice none 0 0]) rfl
  have hb2:=blk_put hb1 1 (.bool false) (cs':=#[.bool hdb,.bool false,.bool false,.slice none 0 0]) rfl
  have hb3:=blk_put hb2 2 (.bool true) (cs':=#[.bool hdb,.bool false,.bool true,.slice none 0 0]) rfl
  have hb4:=blk_put hb3 3 (.slice A7 0 c7) (cs':=#[.bool hdb,.bool false,.bool true,.slice A7 0 c7]) rfl
  exact hb4
 ·repeat (first | (with_reducible exact Steps.At.refl _ _) | refine Steps.At.set ?_ _ _)
 have HD10:=Lib.hid (HD.out.write H.out.hB hF.1 hF.2)
 clear hF HD hc0 hf0 hc1 hf1 hc2 hf2 hc3 hf3
 refine hK.out _ _ ?_
 clear hK K
 refine pure_ (i:=14) (N:=some 8) (v:=?_) (a':=?_) M0f rfl rfl (by kernel_rfl) (fun _ _ _ h => h) (Or.inl ⟨by rfl,?_⟩) ?_ ?_
 rotate_left
 ·intro w'
  go_simp
  with_reducible rfl
 rotate_left
 ·simp only [Act.put,sA,sZ,sS]
  rfl
 refine done_ (by kernel_rfl) ?_
 have ht2:w10.cell? ⟨g7,2,none⟩ = some (.bool true):=(blk_cell HD10.out.t7 2).trans rfl
 go_wp2_with (go_at_call 127; (have hc9:Calls Try.prog 127 #[.pointer (some ⟨gp,0,none⟩),.int .i64 2,.slice none 0 0] w10 _:=note_0 HD10.out.at_ 2 [] none 0 (nil_C w10) (by decide) (by rw [Pr.set_eq]; exact HLL.out)); (with_reducible refine hc9.mono ?_); clear hc9; rintro e w12 ⟨rfl,hM⟩; (have HM:=Lib.hid hM); clear hM; (have hu1:w12.cell? ⟨g7,1,none⟩ = some (.bool false):=cell_kept ((blk_cell HD10.out.t7 1).trans rfl) HM.out.choose_spec.choose_spec.choose_spec.2.2.1 (fun hx => hx.elim (fun x => HD10.out.n7.1 x) (fun x => HD10.out.n7.2.1 _ x))); (have hu3:w12.cell? ⟨g7,3,none⟩ = some (.slice A7 0 c7):=cell_kept ((blk_cell HD10.out.t7 3).trans rfl) HM.out.choose_spec.choose_spec.choose_spec.2.2.1 (fun hx => hx.elim (fun x => HD10.out.n7.1 x) (fun x => HD10.out.n7.2.1 _ x))))
 all_goals (go_ret; refine ⟨rfl,?_⟩)
 have hM:=HM.out
 rw [Pr.set_set,Pr.set_eq] at hM
 exact Moves.then_ HD10.out.kept HD10.out.below HD10.out.grew hM (fun k hk => hk.elim (fun x => .inl (.inl x)) (fun x => (HD10.out.grew.2 _ k x).elim (fun y => .inl (.inr (.inr y))) .inr))
set_option maxRecDepth 100000 in
set_option maxHeartbeats 4000000 in
theorem deliver_d_1 {w:World} {B gp:Nat} {ge:Nat → Nat} {own:Nat → Nat → Prop} {X:Pr} {lv:Nat → Value} {wv:Value} (h:PAt w B gp ge own X lv wv) (i:Nat) (hi:i < X.way.length) (hlw:X.way.length ≤ 1024) (bt:Int) (p:Pkt) (hf:X.way.getD i nilF = ⟨1,bt,p⟩) (hbt:0 < bt ∧ bt < 4294967296) (hp:p.Good) (hok:(X.sd 1).end_.Ok) (hll:(X.sd 1).log.length ≤ 1000000) (kind side:Int) (vb:Value) (L':Lk) (hdb:Bool) (hT:takeF (X.sd 1).end_ bt p = (L',⟨hdb,false,true,[]⟩)) :
  Calls Try.prog 112 #[.pointer (some ⟨gp,0,none⟩),.agg #[.int .i64 kind,.int .i64 side,.int .i64 (i:Int),vb]] w fun e w' => e = .returned (.int .i64 0) ∧ Moves w B gp ge own (({ X with way:=X.way.eraseIdx i }:Pr).set 1 (noteF (endF (X.sd 1) L') 2 [])) (fun k => k = gp ∨ own 2 k ∨ own 4 k) w':=by
 have hba:Below w.heap.size w (w.alloc (.cells #[.int .i64 kind,.int .i64 side,.int .i64 (i:Int),vb] 72)):=(Below.refl _ _).alloc (Nat.le_refl _) _
 have hc2:(w.alloc (.cells #[.int .i64 kind,.int .i64 side,.int .i64 (i:Int),vb] 72)).cell? ⟨w.heap.size,2,none⟩ = some (.int .i64 (i:Int)):=(blk_cell (heap_alloc_new w _) 2).trans rfl
 have HX1:=Lib.hid (h.sub hba)
 have HBA:=Lib.hid hba
 have H:=Lib.hid h
 have HI:=Lib.hid hi
 have HL:=Lib.hid hlw
 have HFF:=Lib.hid hf
 have HBT:=Lib.hid hbt
 have HPG:=Lib.hid hp
 have OK:=Lib.hid hok
 have HLL:=Lib.hid hll
 have HT:=Lib.hid hT
 clear h hba hi hlw hf hbt hp hok hll hT
 go_enter Try.func112,Try.ntmps112
 go_wp2_with (first | (go_at_call 128; (have hc:=out_p HX1.out i HI.out HL.out); rw [HFF.out] at hc; (with_reducible refine hc.mono ?_); clear hc; rintro e w3 ⟨b3,rfl,hR3,hM3⟩; (obtain ⟨Ab,cb,hb3⟩:=Kd.R_slice hR3); (subst hb3); (obtain ⟨own1,lv1,wv1,hP1,hg1,hk1,hb1⟩:=hM3); (have HP1:=Lib.hid hP1); (have HG1:=Lib.hid ((Grew.refl w own).trans HBA.out.size hg1)); (have HK1:=Lib.hid (show Kept w w3 (fun k => k = gp ∨ own 2 k ∨ own 4 k) from (Kept.of_below HBA.out _).then_ hk1 (fun k hk => .inl (.inl hk)))); (have HB1:=Lib.hid ((HBA.out.mono H.out.hB).trans hb1)); (have HR3:=Lib.hid (Kd.R_mono hR3 (fun k hk => hg1.1 5 k hk))); (have HZ3:=Lib.hid (heap_alloc_new w3 (.cells #[.int .i64 0,.int .u32 0,.int .i64 0,.int .u32 0,.int .u32 0,.int .u32 0,.int .u32 0,.int .u32 0,.int .u32 0,.int .u32 0,.complex .f64 0 0,.slice none 0 0] 150))); (have HZB:=Lib.hid (show Below w3.heap.size w3 (w3.alloc (.cells #[.int .i64 0,.int .u32 0,.int .i64 0,.int .u32 0,.int .u32 0,.int .u32 0,.int .u32 0,.int .u32 0,.int .u32 0,.int .u32 0,.complex .f64 0 0,.slice none 0 0] 150)) from (Below.refl _ _).alloc (Nat.le_refl _) _)); (clear hP1 hg1 hk1 hb1 hR3)) | ((with_reducible refine gate_ (.store 150 (.tmp 5) (.tmp 12)) rfl ?_); (refine store_row_F rfl rfl 150 (.tmp 5) (.tmp 12) rfl w3.heap.size #[.int .i64 1,.int .u32 bt,.int .i64 p.kind,.int .u32 p.mine,.int .u32 p.boot,.int .u32 p.yours,.int .u32 p.seq,.int .u32 p.ack,.int .u32 p.stamp,.int .u32 p.echo,.complex .f64 p.zr p.zi,.slice Ab p.body.length cb] rfl rfl 150 _ HZ3.out (by kernel_rfl) rfl (by kernel_rfl) ?_); (intro w4 hb4 hat4); (have HB4:=Lib.hid hb4); (have HBL:=Lib.hid (hat4.below HZB.out (Nat.le_refl _))); (have hd0:w4.cell? ⟨w3.heap.size,0,none⟩ = some (.int .i64 1):=(blk_cell HB4.out 0).trans rfl); (clear hb4 hat4)))
 go_quiet (fail)
 rename Nat => nq1
 go_wp2_with fail
 have hbd:=bl_drew (bl_drewN HBL.out nq1)
 have hSS:(w4.drewN nq1).drew.heap[gp]? = some (.cells (prow ({ X with way:=X.way.eraseIdx i }:Pr) ge lv1 wv1) 143 (0,0)) ∧ (w4.drewN nq1).drew.heap[w3.heap.size]? = some (.cells #[.int .i64 1,.int .u32 bt,.int .i64 p.kind,.int .u32 p.mine,.int .u32 p.boot,.int .u32 p.yours,.int .u32 p.seq,.int .u32 p.ack,.int .u32 p.stamp,.int .u32 p.echo,.complex .f64 p.zr p.zi,.slice Ab p.body.length cb] 150 (0,0)):=⟨(HP1.out.sub hbd).blk,HB4.out⟩
 clear HB4 HBL HZ3 HZB hd0
 refine start_ (n:=15) (S:=fun w' => w'.heap[gp]? = some (.cells (prow ({ X with way:=X.way.eraseIdx i }:Pr) ge lv1 wv1) 143 (0,0)) ∧ w'.heap[w3.heap.size]? = some (.cells #[.int .i64 1,.int .u32 bt,.int .i64 p.kind,.int .u32 p.mine,.int .u32 p.boot,.int .u32 p.yours,.int .u32 p.seq,.int .u32 p.ack,.int .u32 p.stamp,.int .u32 p.echo,.complex .f64 p.zr p.zi,.slice Ab p.body.length cb] 150 (0,0))) (ds:=[13]) M01 (by kernel_rfl) rfl rfl (hSS) (fun hHeld => ?_)
 generalize (w4.drewN nq1).drew = w6 at hbd hHeld ⊢
 have HBD:=Lib.hid hbd
 clear hbd
 refine pure_ (i:=0) (N:=some 20) (v:=?_) (a':=?_) M02 rfl rfl (by kernel_rfl) (fun _ _ _ h => h) (Or.inl ⟨by rfl,?_⟩) ?_ ?_
 rotate_left
 ·intro w'
  go_simp
  with_reducible rfl
 rotate_left
 ·simp only [Act.put,sA,sZ,sS]
  rfl
 refine pure_ (i:=1) (N:=some 21) (v:=?_) (a':=?_) M03 rfl rfl (by kernel_rfl) (fun _ _ _ h => h) (Or.inl ⟨by rfl,?_⟩) ?_ ?_
 rotate_left
 ·intro w'
  go_simp
  with_reducible rfl
 rotate_left
 ·simp only [Act.put,sA,sZ,sS]
  rfl
 refine pure_ (i:=2) (N:=some 22) (v:=?_) (a':=?_) M04 rfl rfl (by kernel_rfl) (fun _ _ _ h => h) (Or.inl ⟨by rfl,?_⟩) ?_ ?_
 rotate_left
 ·intro w'
  go_simp
  rfl
 rotate_left
 ·simp only [Act.put,sA,sZ,sS]
  rfl
 refine take_ (i:=3) (N:=some 23) (v:=?_) (a':=?_) M05 rfl rfl (by kernel_rfl) (fun _ _ _ h => h) (Or.inl ⟨by rfl,?_⟩) hHeld ?_ ?_
 rotate_left
 ·intro w' s0
  have hc2:w'.cell? ⟨gp,9,none⟩ = some (.pointer (some ⟨ge 1,0,none⟩)):=(blk_cell s0.1 9).trans rfl
  clear s0
  go_simp
  rfl
 rotate_left
 ·simp only [Act.put,sA,sZ,sS]
  rfl
 refine pure_ (i:=4) (N:=some 24) (v:=?_) (a':=?_) M06 rfl rfl (by kernel_rfl) (fun _ _ _ h => h) (Or.inl ⟨by rfl,?_⟩) ?_ ?_
 rotate_left
 ·intro w'
  go_simp
  with_reducible rfl
 rotate_left
 ·simp only [Act.put,sA,sZ,sS]
  rfl
 refine take_ (i:=5) (N:=some 25) (v:=?_) (a':=?_) M07 rfl rfl (by kernel_rfl) (fun _ _ _ h => h) (Or.inl ⟨by rfl,?_⟩) hHeld ?_ ?_
 rotate_left
 ·intro w' s0
  have hc3:w'.cell? ⟨w3.heap.size,1,none⟩ = some (.int .u32 bt):=(blk_cell s0.2 1).trans rfl
  clear s0
  go_simp
  with_reducible rfl
 rotate_left
 ·simp only [Act.put,sA,sZ,sS]
  rfl
 refine pure_ (i:=6) (N:=some 26) (v:=?_) (a':=?_) M08 rfl rfl (by kernel_rfl) (fun _ _ _ h => h) (Or.inl ⟨by rfl,?_⟩) ?_ ?_
 rotate_left
 ·intro w'
  go_simp
  with_reducible rfl
 rotate_left
 ·simp only [Act.put,sA,sZ,sS]
  rfl
 refine take_ (i:=7) (N:=some 27) (v:=?_) (a':=?_) M09 rfl rfl (by kernel_rfl) (fun _ _ _ h => h) (Or.inl ⟨by rfl,?_⟩) hHeld ?_ ?_
 rotate_left
 ·intro w' s0
  have hu27:=Try.underlying27
  have hd2:w'.cell? ⟨w3.heap.size,2,none⟩ = some (.int .i64 p.kind):=(blk_cell s0.2 2).trans rfl
  have hd3:w'.cell? ⟨w3.heap.size,3,none⟩ = some (.int .u32 p.mine):=(blk_cell s0.2 3).trans rfl
  have hd4:w'.cell? ⟨w3.heap.size,4,none⟩ = some (.int .u32 p.boot):=(blk_cell s0.2 4).trans rfl
  have hd5:w'.cell? ⟨w3.heap.size,5,none⟩ = some (.int .u32 p.yours):=(blk_cell s0.2 5).trans rfl
  have hd6:w'.cell? ⟨w3.heap.size,6,none⟩ = some (.int .u32 p.seq):=(blk_cell s0.2 6).trans rfl
  have hd7:w'.cell? ⟨w3.heap.size,7,none⟩ = some (.int .u32 p.ack):=(blk_cell s0.2 7).trans rfl
  have hd8:w'.cell? ⟨w3.heap.size,8,none⟩ = some (.int .u32 p.stamp):=(blk_cell s0.2 8).trans rfl
  have hd9:w'.cell? ⟨w3.heap.size,9,none⟩ = some (.int .u32 p.echo):=(blk_cell s0.2 9).trans rfl
  have hd10:w'.cell? ⟨w3.heap.size,10,none⟩ = some (.complex .f64 p.zr p.zi):=(blk_cell s0.2 10).trans rfl
  have hd11:w'.cell? ⟨w3.heap.size,11,none⟩ = some (.slice Ab p.body.length cb):=(blk_cell s0.2 11).trans rfl
  clear s0
  go_simp
  try rfl
 rotate_left
 ·simp only [Act.put,sA,sZ,sS]
  rfl
 refine join_ (σ:=Nat × Option Addr × Nat) 2 M00 (fun s => [(28,.tuple #[.agg #[.bool hdb,.bool false,.bool true,.slice s.2.1 0 s.2.2],.int .i64 0]),(19,.tuple #[.agg #[.bool hdb,.bool false,.bool true,.slice s.2.1 0 s.2.2],.int .i64 0]),(29,.agg #[.bool hdb,.bool false,.bool true,.slice s.2.1 0 s.2.2]),(30,.int .i64 0),(7,.pointer (some ⟨s.1,0,none⟩))]) (fun s w' => DVE w B gp ge own (({ X with way:=X.way.eraseIdx i }:Pr).set 1 (endF (X.sd 1) L')) (fun k => k = gp ∨ own 2 k ∨ own 4 k) s.1 (.slice s.2.1 0 s.2.2) [] #[.bool false,.bool false,.bool false,.slice none 0 0] w') ?_ ?_
 rotate_left
 ·intro hcont
  refine two_ (i:=8) (j:=12) (Ni:=some 28) (Nj:=some 7) M0a M0A rfl rfl rfl rfl (by kernel_rfl) (by decide) (by decide) (fun K hK => ?_) (fun K hK => ?_)
  ·skip
   have hQ6:=(HP1.out.sub HBD.out)
   refine goes_ Try.func34 (by kernel_rfl) rfl #[.pointer (some ⟨ge 1,0,none⟩),.int .u32 bt,.agg #[.int .i64 p.kind,.int .u32 p.mine,.int .u32 p.boot,.int .u32 p.yours,.int .u32 p.seq,.int .u32 p.ack,.int .u32 p.stamp,.int .u32 p.echo,.complex .f64 p.zr p.zi,.slice Ab p.body.length cb]] (by rfl) rfl rfl (by (try simp only [List.map_toArray,List.map_cons,List.map_nil]); first | done | rfl) ?_
   have hc9:Calls Try.prog 34 #[.pointer (some ⟨ge 1,0,none⟩),.int .u32 bt,.agg #[.int .i64 p.kind,.int .u32 p.mine,.int .u32 p.boot,.int .u32 p.yours,.int .u32 p.seq,.int .u32 p.ack,.int .u32 p.stamp,.int .u32 p.echo,.complex .f64 p.zr p.zi,.slice Ab p.body.length cb]] w6 _:=take_end (hQ6.e 1 (by decide)) hQ6.hB OK.out bt p HBT.out HPG.out (cs:=cells p (.slice Ab p.body.length cb)) (okp:=own1 5) (pkt_M.2 ⟨_,rfl,Kd.R_kept HR3.out (Kept.of_below HBD.out (fun _ => False)) (fun _ _ hf => hf)⟩) (fun k hx hy => by have:=hQ6.disj 5 (1 + 1) k hx hy; omega)
   refine hc9.mono ?_
   clear hc9
   intro e w7 hT7
   have hT8:TookT w6 B (own1 (1 + 1)) (ge 1) (L',⟨hdb,false,true,[]⟩) e w7:=by
    have hh:=HT.out
    rw [← hh]
    exact hT7
   clear hT7
   obtain ⟨v7,rfl,⟨A7,c7,hv7⟩,hD⟩:=DV.behind (cs:=#[.bool false,.bool false,.bool false,.slice none 0 0]) (s:=1) (by decide) hQ6 HG1.out (HK1.out.below HBD.out) (HB1.out.trans (HBD.out.mono HP1.out.hB)) (fun k hk => (HG1.out.2 _ k hk).elim (fun x => .inl (.inr (.inl x))) .inr) hT8
   have hv8:v7 = .slice A7 0 c7:=by rw [hv7]; rfl
   subst hv8
   clear hv7
   have HD:=Lib.hid hD
   refine ⟨_,rfl,?_⟩
   have hS7:w7.heap[gp]? = some (.cells (prow ({ X with way:=X.way.eraseIdx i }:Pr) ge lv1 wv1) 143 (0,0)) ∧ w7.heap[w3.heap.size]? = some (.cells #[.int .i64 1,.int .u32 bt,.int .i64 p.kind,.int .u32 p.mine,.int .u32 p.boot,.int .u32 p.yours,.int .u32 p.seq,.int .u32 p.ack,.int .u32 p.stamp,.int .u32 p.echo,.complex .f64 p.zr p.zi,.slice Ab p.body.length cb] 150 (0,0)):=⟨blk_kept hHeld.1 (Took.turns hT8).2.1 (HP1.out.gp0 _),blk_kept hHeld.2 (Took.turns hT8).2.1 (fun hx => by have:=HP1.out.lt _ _ hx; omega)⟩
   clear hT8 hD hQ6 hHeld
   refine hK.out _ _ hS7 (fun hHeld => ?_)
   clear hK K hS7
   refine norm_ (a':=?_) ?_ ?_
   rotate_left
   ·show Act.put _ (some 28) _ = _
    simp only [Act.put,sA,sZ,sS]
    rfl
   refine pure_ (i:=9) (N:=some 19) (v:=?_) (a':=?_) M0b rfl rfl (by kernel_rfl) (fun _ _ _ h => h) (Or.inl ⟨by rfl,?_⟩) ?_ ?_
   rotate_left
   ·intro w'
    go_simp
    with_reducible rfl
   rotate_left
   ·simp only [Act.put,sA,sZ,sS]
    rfl
   refine pure_ (i:=10) (N:=some 29) (v:=?_) (a':=?_) M0c rfl rfl (by kernel_rfl) (fun _ _ _ h => h) (Or.inl ⟨by rfl,?_⟩) ?_ ?_
   rotate_left
   ·intro w'
    go_simp
    with_reducible rfl
   rotate_left
   ·simp only [Act.put,sA,sZ,sS]
    rfl
   refine pure_ (i:=11) (N:=some 30) (v:=?_) (a':=?_) M0d rfl rfl (by kernel_rfl) (fun _ _ _ h => h) (Or.inl ⟨by rfl,?_⟩) ?_ ?_
   rotate_left
   ·intro w'
    go_simp
    with_reducible rfl
   rotate_left
   ·simp only [Act.put,sA,sZ,sS]
    rfl
   refine one_ (i:=12) (N:=some 7) M00 rfl rfl (by kernel_rfl) (by decide) (fun K hK => ?_)
   refine box_step (by rfl) (N:=7) rfl (cs:=#[.bool false,.bool false,.bool false,.slice none 0 0]) (t:=56) (by first | (go_simp; done) | (go_simp; rfl)) ?_
   intro g7 hg7 w8 hbx hb8
   have hS8:w8.heap[gp]? = some (.cells (prow ({ X with way:=X.way.eraseIdx i }:Pr) ge lv1 wv1) 143 (0,0)) ∧ w8.heap[w3.heap.size]? = some (.cells #[.int .i64 1,.int .u32 bt,.int .i64 p.kind,.int .u32 p.mine,.int .u32 p.boot,.int .u32 p.yours,.int .u32 p.seq,.int .u32 p.ack,.int .u32 p.stamp,.int .u32 p.echo,.complex .f64 p.zr p.zi,.slice Ab p.body.length cb] 150 (0,0)):=⟨(hb8.block gp (blk_lt hHeld.1)).trans hHeld.1,(hb8.block _ (blk_lt hHeld.2)).trans hHeld.2⟩
   have HD8:=Lib.hid (HD.out w8 g7 hg7 hbx hb8)
   clear hbx hb8 HD hHeld hg7
   refine hK.out _ _ hS8 (fun hHeld => ?_)
   clear hK K hS8
   refine norm_ (a':=?_) ?_ ?_
   rotate_left
   ·show Act.put _ (some 7) _ = _
    simp only [Act.put,sA,sZ,sS]
    rfl
   have h9:=hcont (g7,A7,c7) _ HD8.out
   simp only [putAll,Act.put,sA,sZ,sS] at h9
   exact h9
  ·skip
   refine box_step (by rfl) (N:=7) rfl (cs:=#[.bool false,.bool false,.bool false,.slice none 0 0]) (t:=56) (by first | (go_simp; done) | (go_simp; rfl)) ?_
   intro g7 hg7 w8 hbx hb8
   have hS8:w8.heap[gp]? = some (.cells (prow ({ X with way:=X.way.eraseIdx i }:Pr) ge lv1 wv1) 143 (0,0)) ∧ w8.heap[w3.heap.size]? = some (.cells #[.int .i64 1,.int .u32 bt,.int .i64 p.kind,.int .u32 p.mine,.int .u32 p.boot,.int .u32 p.yours,.int .u32 p.seq,.int .u32 p.ack,.int .u32 p.stamp,.int .u32 p.echo,.complex .f64 p.zr p.zi,.slice Ab p.body.length cb] 150 (0,0)):=⟨(hb8.block gp (blk_lt hHeld.1)).trans hHeld.1,(hb8.block _ (blk_lt hHeld.2)).trans hHeld.2⟩
   have HQ8:=Lib.hid ((HP1.out.sub HBD.out).sub hb8)
   have hl6:=blk_lt (HP1.out.sub HBD.out).blk
   have hz6:=HBD.out.size
   have hz3:=HK1.out.1
   have HH8:=Lib.hid (show w8.heap[g7]? = some (.cells #[.bool false,.bool false,.bool false,.slice none 0 0] 56 (0,0)) ∧ (g7 ≠ gp ∧ ∀ i,¬ own1 i g7) ∧ w.heap.size ≤ g7 from ⟨hbx,⟨by omega,fun i hi => by have:=(HP1.out.sub HBD.out).lt i g7 hi; omega⟩,by omega⟩)
   have HB8:=Lib.hid hb8
   clear hbx hl6 hz6 hz3 hHeld hg7
   clear hb8
   refine hK.out _ _ hS8 (fun hHeld => ?_)
   clear hK K hS8
   refine norm_ (a':=?_) ?_ ?_
   rotate_left
   ·show Act.put _ (some 7) _ = _
    simp only [Act.put,sA,sZ,sS]
    rfl
   refine one_ (i:=8) (N:=some 28) M0B rfl rfl (by kernel_rfl) (by decide) (fun K hK => ?_)
   have hQ6:=HQ8.out
   refine goes_ Try.func34 (by kernel_rfl) rfl #[.pointer (some ⟨ge 1,0,none⟩),.int .u32 bt,.agg #[.int .i64 p.kind,.int .u32 p.mine,.int .u32 p.boot,.int .u32 p.yours,.int .u32 p.seq,.int .u32 p.ack,.int .u32 p.stamp,.int .u32 p.echo,.complex .f64 p.zr p.zi,.slice Ab p.body.length cb]] (by rfl) rfl rfl (by (try simp only [List.map_toArray,List.map_cons,List.map_nil]); first | done | rfl) ?_
   have hc9:Calls Try.prog 34 #[.pointer (some ⟨ge 1,0,none⟩),.int .u32 bt,.agg #[.int .i64 p.kind,.int .u32 p.mine,.int .u32 p.boot,.int .u32 p.yours,.int .u32 p.seq,.int .u32 p.ack,.int .u32 p.stamp,.int .u32 p.echo,.complex .f64 p.zr p.zi,.slice Ab p.body.length cb]] w8 _:=take_end (hQ6.e 1 (by decide)) hQ6.hB OK.out bt p HBT.out HPG.out (cs:=cells p (.slice Ab p.body.length cb)) (okp:=own1 5) (pkt_M.2 ⟨_,rfl,Kd.R_kept HR3.out (Kept.of_below (HBD.out.trans (HB8.out.mono HBD.out.size)) (fun _ => False)) (fun _ _ hf => hf)⟩) (fun k hx hy => by have:=hQ6.disj 5 (1 + 1) k hx hy; omega)
   refine hc9.mono ?_
   clear hc9
   intro e w7 hT7
   have hT8:TookT w8 B (own1 (1 + 1)) (ge 1) (L',⟨hdb,false,true,[]⟩) e w7:=by
    have hh:=HT.out
    rw [← hh]
    exact hT7
   clear hT7
   obtain ⟨v7,rfl,⟨A7,c7,hv7⟩,hD⟩:=DV.ahead (s:=1) (by decide) hQ6 HG1.out (HK1.out.below (HBD.out.trans (HB8.out.mono HBD.out.size))) (HB1.out.trans ((HBD.out.trans (HB8.out.mono HBD.out.size)).mono HP1.out.hB)) (fun k hk => (HG1.out.2 _ k hk).elim (fun x => .inl (.inr (.inl x))) .inr) HH8.out.1 HH8.out.2.1 HH8.out.2.2 hT8
   have hv8:v7 = .slice A7 0 c7:=by rw [hv7]; rfl
   subst hv8
   clear hv7
   have HD:=Lib.hid hD
   refine ⟨_,rfl,?_⟩
   have hS7:w7.heap[gp]? = some (.cells (prow ({ X with way:=X.way.eraseIdx i }:Pr) ge lv1 wv1) 143 (0,0)) ∧ w7.heap[w3.heap.size]? = some (.cells #[.int .i64 1,.int .u32 bt,.int .i64 p.kind,.int .u32 p.mine,.int .u32 p.boot,.int .u32 p.yours,.int .u32 p.seq,.int .u32 p.ack,.int .u32 p.stamp,.int .u32 p.echo,.complex .f64 p.zr p.zi,.slice Ab p.body.length cb] 150 (0,0)):=⟨blk_kept hHeld.1 (Took.turns hT8).2.1 (HP1.out.gp0 _),blk_kept hHeld.2 (Took.turns hT8).2.1 (fun hx => by have:=HP1.out.lt _ _ hx; omega)⟩
   clear hT8 hD hQ6 hHeld
   refine hK.out _ _ hS7 (fun hHeld => ?_)
   clear hK K hS7
   refine norm_ (a':=?_) ?_ ?_
   rotate_left
   ·show Act.put _ (some 28) _ = _
    simp only [Act.put,sA,sZ,sS]
    rfl
   refine pure_ (i:=9) (N:=some 19) (v:=?_) (a':=?_) M0C rfl rfl (by kernel_rfl) (fun _ _ _ h => h) (Or.inl ⟨by rfl,?_⟩) ?_ ?_
   rotate_left
   ·intro w'
    go_simp
    with_reducible rfl
   rotate_left
   ·simp only [Act.put,sA,sZ,sS]
    rfl
   refine pure_ (i:=10) (N:=some 29) (v:=?_) (a':=?_) M0D rfl rfl (by kernel_rfl) (fun _ _ _ h => h) (Or.inl ⟨by rfl,?_⟩) ?_ ?_
   rotate_left
   ·intro w'
    go_simp
    with_reducible rfl
   rotate_left
   ·simp only [Act.put,sA,sZ,sS]
    rfl
   refine pure_ (i:=11) (N:=some 30) (v:=?_) (a':=?_) M00 rfl rfl (by kernel_rfl) (fun _ _ _ h => h) (Or.inl ⟨by rfl,?_⟩) ?_ ?_
   rotate_left
   ·intro w'
    go_simp
    with_reducible rfl
   rotate_left
   ·simp only [Act.put,sA,sZ,sS]
    rfl
   have h9:=hcont (g7,A7,c7) _ HD.out
   simp only [putAll,Act.put,sA,sZ,sS] at h9
   exact h9
 intro s9 w9 hF
 obtain ⟨g7,A7,c7⟩:=s9
 obtain ⟨own2,lv2,wv2,okb,hD⟩:=hF
 have HD:=Lib.hid hD
 clear hD
 refine norm_ (a':=?_) ?_ ?_
 rotate_left
 ·show putAll _ _ = _
  simp only [putAll,Act.put,sA,sZ,sS]
  rfl
 have hc0:w9.cell? ⟨g7,0,none⟩ = some (.bool false):=(blk_cell HD.out.t7 0).trans rfl
 have hf0:=blk_frozen HD.out.t7 0
 have hc1:w9.cell? ⟨g7,1,none⟩ = some (.bool false):=(blk_cell HD.out.t7 1).trans rfl
 have hf1:=blk_frozen HD.out.t7 1
 have hc2:w9.cell? ⟨g7,2,none⟩ = some (.bool false):=(blk_cell HD.out.t7 2).trans rfl
 have hf2:=blk_frozen HD.out.t7 2
 have hc3:w9.cell? ⟨g7,3,none⟩ = some (.slice none 0 0):=(blk_cell HD.out.t7 3).trans rfl
 have hf3:=blk_frozen HD.out.t7 3
 refine last_ (i:=13) (N:=none) M0e rfl rfl (by kernel_rfl) (by decide) (fun K hK => ?_)
 refine skip_F (fun wz => wz.heap[g7]? = some (.cells #[.bool hdb,.bool false,.bool true,.slice A7 0 c7] 56 (0,0)) ∧ Steps.At g7 w9 wz) (by rfl) rfl ⟨_,by go_simp; rfl,?_,?_⟩ (fun w10 hF => ?_)
 ·skip
  have hb1:=blk_put HD.out.t7 0 (.bool hdb) (cs':=#[.bool hdb,.bool false,.bool false,.slice none 0 0]) rfl
  have hb2:=blk_put hb1 1 (.bool false) (cs':=#[.bool hdb,.bool false,.bool false,.slice none 0 0]) rfl
  have hb3:=blk_put hb2 2 (.bool true) (cs':=#[.bool hdb,.bool false,.bool true,.slice none 0 0]) rfl
  have hb4:=blk_put hb3 3 (.slice A7 0 c7) (cs':=#[.bool hdb,.bool false,.bool true,.slice A7 0 c7]) rfl
  exact hb4
 ·repeat (first | (with_reducible exact Steps.At.refl _ _) | refine Steps.At.set ?_ _ _)
 have HD10:=Lib.hid (HD.out.write H.out.hB hF.1 hF.2)
 clear hF HD hc0 hf0 hc1 hf1 hc2 hf2 hc3 hf3
 refine hK.out _ _ ?_
 clear hK K
 refine pure_ (i:=14) (N:=some 8) (v:=?_) (a':=?_) M0f rfl rfl (by kernel_rfl) (fun _ _ _ h => h) (Or.inl ⟨by rfl,?_⟩) ?_ ?_
 rotate_left
 ·intro w'
  go_simp
  with_reducible rfl
 rotate_left
 ·simp only [Act.put,sA,sZ,sS]
  rfl
 refine done_ (by kernel_rfl) ?_
 have ht2:w10.cell? ⟨g7,2,none⟩ = some (.bool true):=(blk_cell HD10.out.t7 2).trans rfl
 go_wp2_with (go_at_call 127; (have hc9:Calls Try.prog 127 #[.pointer (some ⟨gp,9,none⟩),.int .i64 2,.slice none 0 0] w10 _:=note_1 HD10.out.at_ 2 [] none 0 (nil_C w10) (by decide) (by rw [Pr.set_eq]; exact HLL.out)); (with_reducible refine hc9.mono ?_); clear hc9; rintro e w12 ⟨rfl,hM⟩; (have HM:=Lib.hid hM); clear hM; (have hu1:w12.cell? ⟨g7,1,none⟩ = some (.bool false):=cell_kept ((blk_cell HD10.out.t7 1).trans rfl) HM.out.choose_spec.choose_spec.choose_spec.2.2.1 (fun hx => hx.elim (fun x => HD10.out.n7.1 x) (fun x => HD10.out.n7.2.1 _ x))); (have hu3:w12.cell? ⟨g7,3,none⟩ = some (.slice A7 0 c7):=cell_kept ((blk_cell HD10.out.t7 3).trans rfl) HM.out.choose_spec.choose_spec.choose_spec.2.2.1 (fun hx => hx.elim (fun x => HD10.out.n7.1 x) (fun x => HD10.out.n7.2.1 _ x))))
 all_goals (go_ret; refine ⟨rfl,?_⟩)
 have hM:=HM.out
 rw [Pr.set_set,Pr.set_eq] at hM
 exact Moves.then_ HD10.out.kept HD10.out.below HD10.out.grew hM (fun k hk => hk.elim (fun x => .inl (.inl x)) (fun x => (HD10.out.grew.2 _ k x).elim (fun y => .inl (.inr (.inr y))) .inr))
end Go.Proofs.Ytnkkgofpifhoeaa.Pr
end
