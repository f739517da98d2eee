/- What the laws of a pair are proved with: links and pairs in memory, what their methods do, what a pair keeps to (part 5). -/
import Derived.Test.YtnkkgofpifhoeaaPD4
import Derived.MapFrom
import Derived.Carry
set_option linter.unusedSimpArgs false
set_option linter.unusedVariables false
section
namespace Go.Proofs.Ytnkkgofpifhoeaa.Pr
open Go.RowKit Go.Proofs.Ytnkkgofpifhoeaa.Base Go.Proofs.Ytnkkgofpifhoeaa.Steps Go.Proofs.Ytnkkgofpifhoeaa.Lk Go.Proofs.Ytnkkgofpifhoeaa.Win Go.Proofs.YtnkkgofpifhoeaaW.PrintWords Go.Proofs.YtnkkgofpifhoeaaW.PrintLast
set_option maxRecDepth 100000 in
set_option maxHeartbeats 4000000 in
theorem deliver_u_0 {w:World} {B gp:Nat} {ge:Nat → Nat} {own:Nat → Nat → Prop} {X:Pr} {lv:Nat → Value} {wv:Value} (h:PAt w B gp ge own X lv wv) (i:Nat) (hi:i < X.way.length) (hlw:X.way.length ≤ 1024) (bt:Int) (p:Pkt) (hf:X.way.getD i nilF = ⟨0,bt,p⟩) (hbt:0 < bt ∧ bt < 4294967296) (hp:p.Good) (hok:(X.sd 0).end_.Ok) (hll:(X.sd 0).log.length ≤ 1000000) (kind side:Int) (vb:Value) (L':Lk) (hdb:Bool) (hT:takeF (X.sd 0).end_ bt p = (L',⟨hdb,true,false,[]⟩)) :
  Calls Try.prog 112 #[.pointer (some ⟨gp,0,none⟩),.agg #[.int .i64 kind,.int .i64 side,.int .i64 (i:Int),vb]] w fun e w' => e = .returned (.int .i64 0) ∧ Moves w B gp ge own (({ X with way:=X.way.eraseIdx i }:Pr).set 0 (noteF (upS (endF (X.sd 0) L')) 1 [])) (fun k => k = gp ∨ own 1 k ∨ own 3 k) w':=by
 have hba:Below w.heap.size w (w.alloc (.cells #[.int .i64 kind,.int .i64 side,.int .i64 (i:Int),vb] 72)):=(Below.refl _ _).alloc (Nat.le_refl _) _
 have hc2:(w.alloc (.cells #[.int .i64 kind,.int .i64 side,.int .i64 (i:Int),vb] 72)).cell? ⟨w.heap.size,2,none⟩ = some (.int .i64 (i:Int)):=(blk_cell (heap_alloc_new w _) 2).trans rfl
 have HX1:=Lib.hid (h.sub hba)
 have HBA:=Lib.hid hba
 have H:=Lib.hid h
 have HI:=Lib.hid hi
 have HL:=Lib.hid hlw
 have HFF:=Lib.hid hf
 have HBT:=Lib.hid hbt
 have HPG:=Lib.hid hp
 have OK:=Lib.hid hok
 have HLL:=Lib.hid hll
 have HT:=Lib.hid hT
 clear h hba hi hlw hf hbt hp hok hll hT
 go_enter Try.func112,Try.ntmps112
 go_wp2_with (first | (go_at_call 128; (have hc:=out_p HX1.out i HI.out HL.out); rw [HFF.out] at hc; (with_reducible refine hc.mono ?_); clear hc; rintro e w3 ⟨b3,rfl,hR3,hM3⟩; (obtain ⟨Ab,cb,hb3⟩:=Kd.R_slice hR3); (subst hb3); (obtain ⟨own1,lv1,wv1,hP1,hg1,hk1,hb1⟩:=hM3); (have HP1:=Lib.hid hP1); (have HG1:=Lib.hid ((Grew.refl w own).trans HBA.out.size hg1)); (have HK1:=Lib.hid (show Kept w w3 (fun k => k = gp ∨ own 1 k ∨ own 3 k) from (Kept.of_below HBA.out _).then_ hk1 (fun k hk => .inl (.inl hk)))); (have HB1:=Lib.hid ((HBA.out.mono H.out.hB).trans hb1)); (have HR3:=Lib.hid (Kd.R_mono hR3 (fun k hk => hg1.1 5 k hk))); (have HZ3:=Lib.hid (heap_alloc_new w3 (.cells #[.int .i64 0,.int .u32 0,.int .i64 0,.int .u32 0,.int .u32 0,.int .u32 0,.int .u32 0,.int .u32 0,.int .u32 0,.int .u32 0,.complex .f64 0 0,.slice none 0 0] 150))); (have HZB:=Lib.hid (show Below w3.heap.size w3 (w3.alloc (.cells #[.int .i64 0,.int .u32 0,.int .i64 0,.int .u32 0,.int .u32 0,.int .u32 0,.int .u32 0,.int .u32 0,.int .u32 0,.int .u32 0,.complex .f64 0 0,.slice none 0 0] 150)) from (Below.refl _ _).alloc (Nat.le_refl _) _)); (clear hP1 hg1 hk1 hb1 hR3)) | ((with_reducible refine gate_ (.store 150 (.tmp 5) (.tmp 12)) rfl ?_); (refine store_row_F rfl rfl 150 (.tmp 5) (.tmp 12) rfl w3.heap.size #[.int .i64 0,.int .u32 bt,.int .i64 p.kind,.int .u32 p.mine,.int .u32 p.boot,.int .u32 p.yours,.int .u32 p.seq,.int .u32 p.ack,.int .u32 p.stamp,.int .u32 p.echo,.complex .f64 p.zr p.zi,.slice Ab p.body.length cb] rfl rfl 150 _ HZ3.out (by kernel_rfl) rfl (by kernel_rfl) ?_); (intro w4 hb4 hat4); (have HB4:=Lib.hid hb4); (have HBL:=Lib.hid (hat4.below HZB.out (Nat.le_refl _))); (have hd0:w4.cell? ⟨w3.heap.size,0,none⟩ = some (.int .i64 0):=(blk_cell HB4.out 0).trans rfl); (clear hb4 hat4)))
 go_quiet (fail)
 rename Nat => nq1
 go_wp2_with fail
 have hbd:=bl_drew (bl_drewN HBL.out nq1)
 have hSS:(w4.drewN nq1).drew.heap[gp]? = some (.cells (prow ({ X with way:=X.way.eraseIdx i }:Pr) ge lv1 wv1) 143 (0,0)) ∧ (w4.drewN nq1).drew.heap[w3.heap.size]? = some (.cells #[.int .i64 0,.int .u32 bt,.int .i64 p.kind,.int .u32 p.mine,.int .u32 p.boot,.int .u32 p.yours,.int .u32 p.seq,.int .u32 p.ack,.int .u32 p.stamp,.int .u32 p.echo,.complex .f64 p.zr p.zi,.slice Ab p.body.length cb] 150 (0,0)):=⟨(HP1.out.sub hbd).blk,HB4.out⟩
 clear HB4 HBL HZ3 HZB hd0
 refine start_ (n:=15) (S:=fun w' => w'.heap[gp]? = some (.cells (prow ({ X with way:=X.way.eraseIdx i }:Pr) ge lv1 wv1) 143 (0,0)) ∧ w'.heap[w3.heap.size]? = some (.cells #[.int .i64 0,.int .u32 bt,.int .i64 p.kind,.int .u32 p.mine,.int .u32 p.boot,.int .u32 p.yours,.int .u32 p.seq,.int .u32 p.ack,.int .u32 p.stamp,.int .u32 p.echo,.complex .f64 p.zr p.zi,.slice Ab p.body.length cb] 150 (0,0))) (ds:=[13]) M01 (by kernel_rfl) rfl rfl (hSS) (fun hHeld => ?_)
 generalize (w4.drewN nq1).drew = w6 at hbd hHeld ⊢
 have HBD:=Lib.hid hbd
 clear hbd
 refine pure_ (i:=0) (N:=some 20) (v:=?_) (a':=?_) M02 rfl rfl (by kernel_rfl) (fun _ _ _ h => h) (Or.inl ⟨by rfl,?_⟩) ?_ ?_
 rotate_left
 ·intro w'
  go_simp
  with_reducible rfl
 rotate_left
 ·simp only [Act.put,sA,sZ,sS]
  rfl
 refine pure_ (i:=1) (N:=some 21) (v:=?_) (a':=?_) M03 rfl rfl (by kernel_rfl) (fun _ _ _ h => h) (Or.inl ⟨by rfl,?_⟩) ?_ ?_
 rotate_left
 ·intro w'
  go_simp
  with_reducible rfl
 rotate_left
 ·simp only [Act.put,sA,sZ,sS]
  rfl
 refine pure_ (i:=2) (N:=some 22) (v:=?_) (a':=?_) M04 rfl rfl (by kernel_rfl) (fun _ _ _ h => h) (Or.inl ⟨by rfl,?_⟩) ?_ ?_
 rotate_left
 ·intro w'
  go_simp
  rfl
 rotate_left
 ·simp only [Act.put,sA,sZ,sS]
  rfl
 refine take_ (i:=3) (N:=some 23) (v:=?_) (a':=?_) M05 rfl rfl (by kernel_rfl) (fun _ _ _ h => h) (Or.inl ⟨by rfl,?_⟩) hHeld ?_ ?_
 rotate_left
 ·intro w' s0
  have hc2:w'.cell? ⟨gp,0,none⟩ = some (.pointer (some ⟨ge 0,0,none⟩)):=(blk_cell s0.1 0).trans rfl
  clear s0
  go_simp
  rfl
 rotate_left
 ·simp only [Act.put,sA,sZ,sS]
  rfl
 refine pure_ (i:=4) (N:=some 24) (v:=?_) (a':=?_) M06 rfl rfl (by kernel_rfl) (fun _ _ _ h => h) (Or.inl ⟨by rfl,?_⟩) ?_ ?_
 rotate_left
 ·intro w'
  go_simp
  with_reducible rfl
 rotate_left
 ·simp only [Act.put,sA,sZ,sS]
  rfl
 refine take_ (i:=5) (N:=some 25) (v:=?_) (a':=?_) M07 rfl rfl (by kernel_rfl) (fun _ _ _ h => h) (Or.inl ⟨by rfl,?_⟩) hHeld ?_ ?_
 rotate_left
 ·intro w' s0
  have hc3:w'.cell? ⟨w3.heap.size,1,none⟩ = some (.int .u32 bt):=(blk_cell s0.2 1).trans rfl
  clear s0
  go_simp
  with_reducible rfl
 rotate_left
 ·simp only [Act.put,sA,sZ,sS]
  rfl
 refine pure_ (i:=6) (N:=some 26) (v:=?_) (a':=?_) M08 rfl rfl (by kernel_rfl) (fun _ _ _ h => h) (Or.inl ⟨by rfl,?_⟩) ?_ ?_
 rotate_left
 ·intro w'
  go_simp
  with_reducible rfl
 rotate_left
 ·simp only [Act.put,sA,sZ,sS]
  rfl
 refine take_ (i:=7) (N:=some 27) (v:=?_) (a':=?_) M09 rfl rfl (by kernel_rfl) (fun _ _ _ h => h) (Or.inl ⟨by rfl,?_⟩) hHeld ?_ ?_
 rotate_left
 ·intro w' s0
  have hu27:=Try.underlying27
  have hd2:w'.cell? ⟨w3.heap.size,2,none⟩ = some (.int .i64 p.kind):=(blk_cell s0.2 2).trans rfl
  have hd3:w'.cell? ⟨w3.heap.size,3,none⟩ = some (.int .u32 p.mine):=(blk_cell s0.2 3).trans rfl
  have hd4:w'.cell? ⟨w3.heap.size,4,none⟩ = some (.int .u32 p.boot):=(blk_cell s0.2 4).trans rfl
  have hd5:w'.cell? ⟨w3.heap.size,5,none⟩ = some (.int .u32 p.yours):=(blk_cell s0.2 5).trans rfl
  have hd6:w'.cell? ⟨w3.heap.size,6,none⟩ = some (.int .u32 p.seq):=(blk_cell s0.2 6).trans rfl
  have hd7:w'.cell? ⟨w3.heap.size,7,none⟩ = some (.int .u32 p.ack):=(blk_cell s0.2 7).trans rfl
  have hd8:w'.cell? ⟨w3.heap.size,8,none⟩ = some (.int .u32 p.stamp):=(blk_cell s0.2 8).trans rfl
  have hd9:w'.cell? ⟨w3.heap.size,9,none⟩ = some (.int .u32 p.echo):=(blk_cell s0.2 9).trans rfl
  have hd10:w'.cell? ⟨w3.heap.size,10,none⟩ = some (.complex .f64 p.zr p.zi):=(blk_cell s0.2 10).trans rfl
  have hd11:w'.cell? ⟨w3.heap.size,11,none⟩ = some (.slice Ab p.body.length cb):=(blk_cell s0.2 11).trans rfl
  clear s0
  go_simp
  try rfl
 rotate_left
 ·simp only [Act.put,sA,sZ,sS]
  rfl
 refine join_ (σ:=Nat × Option Addr × Nat) 2 M00 (fun s => [(28,.tuple #[.agg #[.bool hdb,.bool true,.bool false,.slice s.2.1 0 s.2.2],.int .i64 0]),(19,.tuple #[.agg #[.bool hdb,.bool true,.bool false,.slice s.2.1 0 s.2.2],.int .i64 0]),(29,.agg #[.bool hdb,.bool true,.bool false,.slice s.2.1 0 s.2.2]),(30,.int .i64 0),(7,.pointer (some ⟨s.1,0,none⟩))]) (fun s w' => DVE w B gp ge own (({ X with way:=X.way.eraseIdx i }:Pr).set 0 (endF (X.sd 0) L')) (fun k => k = gp ∨ own 1 k ∨ own 3 k) s.1 (.slice s.2.1 0 s.2.2) [] #[.bool false,.bool false,.bool false,.slice none 0 0] w') ?_ ?_
 rotate_left
 ·intro hcont
  refine two_ (i:=8) (j:=12) (Ni:=some 28) (Nj:=some 7) M0a M0A rfl rfl rfl rfl (by kernel_rfl) (by decide) (by decide) (fun K hK => ?_) (fun K hK => ?_)
  ·skip
   have hQ6:=(HP1.out.sub HBD.out)
   refine goes_ Try.func34 (by kernel_rfl) rfl #[.pointer (some ⟨ge 0,0,none⟩),.int .u32 bt,.agg #[.int .i64 p.kind,.int .u32 p.mine,.int .u32 p.boot,.int .u32 p.yours,.int .u32 p.seq,.int .u32 p.ack,.int .u32 p.stamp,.int .u32 p.echo,.complex .f64 p.zr p.zi,.slice Ab p.body.length cb]] (by rfl) rfl rfl (by (try simp only [List.map_toArray,List.map_cons,List.map_nil]); first | done | rfl) ?_
   have hc9:Calls Try.prog 34 #[.pointer (some ⟨ge 0,0,none⟩),.int .u32 bt,.agg #[.int .i64 p.kind,.int .u32 p.mine,.int .u32 p.boot,.int .u32 p.yours,.int .u32 p.seq,.int .u32 p.ack,.int .u32 p.stamp,.int .u32 p.echo,.complex .f64 p.zr p.zi,.slice Ab p.body.length cb]] w6 _:=take_end (hQ6.e 0 (by decide)) hQ6.hB OK.out bt p HBT.out HPG.out (cs:=cells p (.slice Ab p.body.length cb)) (okp:=own1 5) (pkt_M.2 ⟨_,rfl,Kd.R_kept HR3.out (Kept.of_below HBD.out (fun _ => False)) (fun _ _ hf => hf)⟩) (fun k hx hy => by have:=hQ6.disj 5 (1 + 0) k hx hy; omega)
   refine hc9.mono ?_
   clear hc9
   intro e w7 hT7
   have hT8:TookT w6 B (own1 (1 + 0)) (ge 0) (L',⟨hdb,true,false,[]⟩) e w7:=by
    have hh:=HT.out
    rw [← hh]
    exact hT7
   clear hT7
   obtain ⟨v7,rfl,⟨A7,c7,hv7⟩,hD⟩:=DV.behind (cs:=#[.bool false,.bool false,.bool false,.slice none 0 0]) (s:=0) (by decide) hQ6 HG1.out (HK1.out.below HBD.out) (HB1.out.trans (HBD.out.mono HP1.out.hB)) (fun k hk => (HG1.out.2 _ k hk).elim (fun x => .inl (.inr (.inl x))) .inr) hT8
   have hv8:v7 = .slice A7 0 c7:=by rw [hv7]; rfl
   subst hv8
   clear hv7
   have HD:=Lib.hid hD
   refine ⟨_,rfl,?_⟩
   have hS7:w7.heap[gp]? = some (.cells (prow ({ X with way:=X.way.eraseIdx i }:Pr) ge lv1 wv1) 143 (0,0)) ∧ w7.heap[w3.heap.size]? = some (.cells #[.int .i64 0,.int .u32 bt,.int .i64 p.kind,.int .u32 p.mine,.int .u32 p.boot,.int .u32 p.yours,.int .u32 p.seq,.int .u32 p.ack,.int .u32 p.stamp,.int .u32 p.echo,.complex .f64 p.zr p.zi,.slice Ab p.body.length cb] 150 (0,0)):=⟨blk_kept hHeld.1 (Took.turns hT8).2.1 (HP1.out.gp0 _),blk_kept hHeld.2 (Took.turns hT8).2.1 (fun hx => by have:=HP1.out.lt _ _ hx; omega)⟩
   clear hT8 hD hQ6 hHeld
   refine hK.out _ _ hS7 (fun hHeld => ?_)
   clear hK K hS7
   refine norm_ (a':=?_) ?_ ?_
   rotate_left
   ·show Act.put _ (some 28) _ = _
    simp only [Act.put,sA,sZ,sS]
    rfl
   refine pure_ (i:=9) (N:=some 19) (v:=?_) (a':=?_) M0b rfl rfl (by kernel_rfl) (fun _ _ _ h => h) (Or.inl ⟨by rfl,?_⟩) ?_ ?_
   rotate_left
   ·intro w'
    go_simp
    with_reducible rfl
   rotate_left
   ·simp only [Act.put,sA,sZ,sS]
    rfl
   refine pure_ (i:=10) (N:=some 29) (v:=?_) (a':=?_) M0c rfl rfl (by kernel_rfl) (fun _ _ _ h => h) (Or.inl ⟨by rfl,?_⟩) ?_ ?_
   rotate_left
   ·intro w'
    go_simp
    with_reducible rfl
   rotate_left
   ·simp only [Act.put,sA,sZ,sS]
    rfl
   refine pure_ (i:=11) (N:=some 30) (v:=?_) (a':=?_) M0d rfl rfl (by kernel_rfl) (fun _ _ _ h => h) (Or.inl ⟨by rfl,?_⟩) ?_ ?_
   rotate_left
   ·intro w'
    go_simp
    with_reducible rfl
   rotate_left
   ·simp only [Act.put,sA,sZ,sS]
    rfl
   refine one_ (i:=12) (N:=some 7) M00 rfl rfl (by kernel_rfl) (by decide) (fun K hK => ?_)
   refine box_step (by rfl) (N:=7) rfl (cs:=#[.bool false,.bool false,.bool false,.slice none 0 0]) (t:=56) (by first | (go_simp; done) | (go_simp; rfl)) ?_
   intro g7 hg7 w8 hbx hb8
   have hS8:w8.heap[gp]? = some (.cells (prow ({ X with way:=X.way.eraseIdx i }:Pr) ge lv1 wv1) 143 (0,0)) ∧ w8.heap[w3.heap.size]? = some (.cells #[.int .i64 0,.int .u32 bt,.int .i64 p.kind,.int .u32 p.mine,.int .u32 p.boot,.int .u32 p.yours,.int .u32 p.seq,.int .u32 p.ack,.int .u32 p.stamp,.int .u32 p.echo,.complex .f64 p.zr p.zi,.slice Ab p.body.length cb] 150 (0,0)):=⟨(hb8.block gp (blk_lt hHeld.1)).trans hHeld.1,(hb8.block _ (blk_lt hHeld.2)).trans hHeld.2⟩
   have HD8:=Lib.hid (HD.out w8 g7 hg7 hbx hb8)
   clear hbx hb8 HD hHeld hg7
   refine hK.out _ _ hS8 (fun hHeld => ?_)
   clear hK K hS8
   refine norm_ (a':=?_) ?_ ?_
   rotate_left
   ·show Act.put _ (some 7) _ = _
    simp only [Act.put,sA,sZ,sS]
    rfl
   have h9:=hcont (g7,A7,c7) _ HD8.out
   simp only [putAll,Act.put,sA,sZ,sS] at h9
   exact h9
  ·skip
   refine box_step (by rfl) (N:=7) rfl (cs:=#[.bool false,.bool false,.bool false,.slice none 0 0]) (t:=56) (by first | (go_simp; done) | (go_simp; rfl)) ?_
   intro g7 hg7 w8 hbx hb8
   have hS8:w8.heap[gp]? = some (.cells (prow ({ X with way:=X.way.eraseIdx i }:Pr) ge lv1 wv1) 143 (0,0)) ∧ w8.heap[w3.heap.size]? = some (.cells #[.int .i64 0,.int .u32 bt,.int .i64 p.kind,.int .u32 p.mine,.int .u32 p.boot,.int .u32 p.yours,.int .u32 p.seq,.int .u32 p.ack,.int .u32 p.stamp,.int .u32 p.echo,.complex .f64 p.zr p.zi,.slice Ab p.body.length cb] 150 (0,0)):=⟨(hb8.block gp (blk_lt hHeld.1)).trans hHeld.1,(hb8.block _ (blk_lt hHeld.2)).trans hHeld.2⟩
   have HQ8:=Lib.hid ((HP1.out.sub HBD.out).sub hb8)
   have hl6:=blk_lt (HP1.out.sub HBD.out).blk
   have hz6:=HBD.out.size
   have hz3:=HK1.out.1
   have HH8:=Lib.hid (show w8.heap[g7]? = some (.cells #[.bool false,.bool false,.bool false,.slice none 0 0] 56 (0,0)) ∧ (g7 ≠ gp ∧ ∀ i,¬ own1 i g7) ∧ w.heap.size ≤ g7 from ⟨hbx,⟨by omega,fun i hi => by have:=(HP1.out.sub HBD.out).lt i g7 hi; omega⟩,by omega⟩)
   have HB8:=Lib.hid hb8
   clear hbx hl6 hz6 hz3 hHeld hg7
   clear hb8
   refine hK.out _ _ hS8 (fun hHeld => ?_)
   clear hK K hS8
   refine norm_ (a':=?_) ?_ ?_
   rotate_left
   ·show Act.put _ (some 7) _ = _
    simp only [Act.put,sA,sZ,sS]
    rfl
   refine one_ (i:=8) (N:=some 28) M0B rfl rfl (by kernel_rfl) (by decide) (fun K hK => ?_)
   have hQ6:=HQ8.out
   refine goes_ Try.func34 (by kernel_rfl) rfl #[.pointer (some ⟨ge 0,0,none⟩),.int .u32 bt,.agg #[.int .i64 p.kind,.int .u32 p.mine,.int .u32 p.boot,.int .u32 p.yours,.int .u32 p.seq,.int .u32 p.ack,.int .u32 p.stamp,.int .u32 p.echo,.complex .f64 p.zr p.zi,.slice Ab p.body.length cb]] (by rfl) rfl rfl (by (try simp only [List.map_toArray,List.map_cons,List.map_nil]); first | done | rfl) ?_
   have hc9:Calls Try.prog 34 #[.pointer (some ⟨ge 0,0,none⟩),.int .u32 bt,.agg #[.int .i64 p.kind,.int .u32 p.mine,.int .u32 p.boot,.int .u32 p.yours,.int .u32 p.seq,.int .u32 p.ack,.int .u32 p.stamp,.int .u32 p.echo,.complex .f64 p.zr p.zi,.slice Ab p.body.length cb]] w8 _:=take_end (hQ6.e 0 (by decide)) hQ6.hB OK.out bt p HBT.out HPG.out (cs:=cells p (.slice Ab p.body.length cb)) (okp:=own1 5) (pkt_M.2 ⟨_,rfl,Kd.R_kept HR3.out (Kept.of_below (HBD.out.trans (HB8.out.mono HBD.out.size)) (fun _ => False)) (fun _ _ hf => hf)⟩) (fun k hx hy => by have:=hQ6.disj 5 (1 + 0) k hx hy; omega)
   refine hc9.mono ?_
   clear hc9
   intro e w7 hT7
   have hT8:TookT w8 B (own1 (1 + 0)) (ge 0) (L',⟨hdb,true,false,[]⟩) e w7:=by
    have hh:=HT.out
    rw [← hh]
    exact hT7
   clear hT7
   obtain ⟨v7,rfl,⟨A7,c7,hv7⟩,hD⟩:=DV.ahead (s:=0) (by decide) hQ6 HG1.out (HK1.out.below (HBD.out.trans (HB8.out.mono HBD.out.size))) (HB1.out.trans ((HBD.out.trans (HB8.out.mono HBD.out.size)).mono HP1.out.hB)) (fun k hk => (HG1.out.2 _ k hk).elim (fun x => .inl (.inr (.inl x))) .inr) HH8.out.1 HH8.out.2.1 HH8.out.2.2 hT8
   have hv8:v7 = .slice A7 0 c7:=by rw [hv7]; rfl
   subst hv8
   clear hv7
   have HD:=Lib.hid hD
   refine ⟨_,rfl,?_⟩
   have hS7:w7.heap[gp]? = some (.cells (prow ({ X with way:=X.way.eraseIdx i }:Pr) ge lv1 wv1) 143 (0,0)) ∧ w7.heap[w3.heap.size]? = some (.cells #[.int .i64 0,.int .u32 bt,.int .i64 p.kind,.int .u32 p.mine,.int .u32 p.boot,.int .u32 p.yours,.int .u32 p.seq,.int .u32 p.ack,.int .u32 p.stamp,.int .u32 p.echo,.complex .f64 p.zr p.zi,.slice Ab p.body.length cb] 150 (0,0)):=⟨blk_kept hHeld.1 (Took.turns hT8).2.1 (HP1.out.gp0 _),blk_kept hHeld.2 (Took.turns hT8).2.1 (fun hx => by have:=HP1.out.lt _ _ hx; omega)⟩
   clear hT8 hD hQ6 hHeld
   refine hK.out _ _ hS7 (fun hHeld => ?_)
   clear hK K hS7
   refine norm_ (a':=?_) ?_ ?_
   rotate_left
   ·show Act.put _ (some 28) _ = _
    simp only [Act.put,sA,sZ,sS]
    rfl
   refine pure_ (i:=9) (N:=some 19) (v:=?_) (a':=?_) M0C rfl rfl (by kernel_rfl) (fun _ _ _ h => h) (Or.inl ⟨by rfl,?_⟩) ?_ ?_
   rotate_left
   ·intro w'
    go_simp
    with_reducible rfl
   rotate_left
   ·simp only [Act.put,sA,sZ,sS]
    rfl
   refine pure_ (i:=10) (N:=some 29) (v:=?_) (a':=?_) M0D rfl rfl (by kernel_rfl) (fun _ _ _ h => h) (Or.inl ⟨by rfl,?_⟩) ?_ ?_
   rotate_left
   ·intro w'
    go_simp
    with_reducible rfl
   rotate_left
   ·simp only [Act.put,sA,sZ,sS]
    rfl
   refine pure_ (i:=11) (N:=some 30) (v:=?_) (a':=?_) M00 rfl rfl (by kernel_rfl) (fun _ _ _ h => h) (Or.inl ⟨by rfl,?_⟩) ?_ ?_
   rotate_left
   ·intro w'
    go_simp
    with_reducible rfl
   rotate_left
   ·simp only [Act.put,sA,sZ,sS]
    rfl
   have h9:=hcont (g7,A7,c7) _ HD.out
   simp only [putAll,Act.put,sA,sZ,sS] at h9
   exact h9
 intro s9 w9 hF
 obtain ⟨g7,A7,c7⟩:=s9
 obtain ⟨own2,lv2,wv2,okb,hD⟩:=hF
 have HD:=Lib.hid hD
 clear hD
 refine norm_ (a':=?_) ?_ ?_
 rotate_left
 ·show putAll _ _ = _
  simp only [putAll,Act.put,sA,sZ,sS]
  rfl
 have hc0:w9.cell? ⟨g7,0,none⟩ = some (.bool false):=(blk_cell HD.out.t7 0).trans rfl
 have hf0:=blk_frozen HD.out.t7 0
 have hc1:w9.cell? ⟨g7,1,none⟩ = some (.bool false):=(blk_cell HD.out.t7 1).trans rfl
 have hf1:=blk_frozen HD.out.t7 1
 have hc2:w9.cell? ⟨g7,2,none⟩ = some (.bool false):=(blk_cell HD.out.t7 2).trans rfl
 have hf2:=blk_frozen HD.out.t7 2
 have hc3:w9.cell? ⟨g7,3,none⟩ = some (.slice none 0 0):=(blk_cell HD.out.t7 3).trans rfl
 have hf3:=blk_frozen HD.out.t7 3
 refine last_ (i:=13) (N:=none) M0e rfl rfl (by kernel_rfl) (by decide) (fun K hK => ?_)
 refine skip_F (fun wz => wz.heap[g7]? = some (.cells #[.bool hdb,.bool true,.bool false,.slice A7 0 c7] 56 (0,0)) ∧ Steps.At g7 w9 wz) (by rfl) rfl ⟨_,by go_simp; rfl,?_,?_⟩ (fun w10 hF => ?_)
 ·skip
  have hb1:=blk_put HD.out.t7 0 (.bool hdb) (cs':=#[.bool hdb,.bool false,.bool false,.slice none 0 0]) rfl
  have hb2:=blk_put hb1 1 (.bool true) (cs':=#[.bool hdb,.bool true,.bool false,.slice none 0 0]) rfl
  have hb3:=blk_put hb2 2 (.bool false) (cs':=#[.bool hdb,.bool true,.bool false,.slice none 0 0]) rfl
  have hb4:=blk_put hb3 3 (.slice A7 0 c7) (cs':=#[.bool hdb,.bool true,.bool false,.slice A7 0 c7]) rfl
  exact hb4
 ·repeat (first | (with_reducible exact Steps.At.refl _ _) | refine Steps.At.set ?_ _ _)
 have HD10:=Lib.hid (HD.out.write H.out.hB hF.1 hF.2)
 clear hF HD hc0 hf0 hc1 hf1 hc2 hf2 hc3 hf3
 refine hK.out _ _ ?_
 clear hK K
 refine pure_ (i:=14) (N:=some 8) (v:=?_) (a':=?_) M0f rfl rfl (by kernel_rfl) (fun _ _ _ h => h) (Or.inl ⟨by rfl,?_⟩) ?_ ?_
 rotate_left
 ·intro w'
  go_simp
  with_reducible rfl
 rotate_left
 ·simp only [Act.put,sA,sZ,sS]
  rfl
 refine done_ (by kernel_rfl) ?_
 have ht1:w10.cell? ⟨g7,1,none⟩ = some (.bool true):=(blk_cell HD10.out.t7 1).trans rfl
 have ht2:w10.cell? ⟨g7,2,none⟩ = some (.bool false):=(blk_cell HD10.out.t7 2).trans rfl
 go_wp2_with fail
 have hbd:=bl_drew (Below.refl w10.heap.size w10)
 have hD11:=HD10.out.sub hbd
 have hS7:w10.drew.heap[gp]? = some (.cells (prow (({ X with way:=X.way.eraseIdx i }:Pr).set 0 (endF (X.sd 0) L')) ge lv2 wv2) 143 (0,0)):=hD11.at_.blk
 clear HD10 hbd ht1 ht2
 refine start_ (n:=14) (S:=fun w' => w'.heap[gp]? = some (.cells (prow (({ X with way:=X.way.eraseIdx i }:Pr).set 0 (endF (X.sd 0) L')) ge lv2 wv2) 143 (0,0))) (ds:=[13]) M2f (by kernel_rfl) rfl rfl (hS7) (fun hHeld => ?_)
 generalize w10.drew = w11 at hD11 hHeld ⊢
 have HD11:=Lib.hid hD11
 clear hD11
 refine pure_ (i:=0) (N:=some 37) (v:=?_) (a':=?_) M2i rfl rfl (by kernel_rfl) (fun _ _ _ h => h) (Or.inl ⟨by rfl,?_⟩) ?_ ?_
 rotate_left
 ·intro w'
  go_simp
  with_reducible rfl
 rotate_left
 ·simp only [Act.put,sA,sZ,sS]
  rfl
 refine pure_ (i:=1) (N:=some 38) (v:=?_) (a':=?_) M2k rfl rfl (by kernel_rfl) (fun _ _ _ h => h) (Or.inl ⟨by rfl,?_⟩) ?_ ?_
 rotate_left
 ·intro w'
  go_simp
  with_reducible rfl
 rotate_left
 ·simp only [Act.put,sA,sZ,sS]
  rfl
 refine pure_ (i:=2) (N:=some 39) (v:=?_) (a':=?_) M2n rfl rfl (by kernel_rfl) (fun _ _ _ h => h) (Or.inl ⟨by rfl,?_⟩) ?_ ?_
 rotate_left
 ·intro w'
  go_simp
  with_reducible rfl
 rotate_left
 ·simp only [Act.put,sA,sZ,sS]
  rfl
 refine pure_ (i:=3) (N:=some 40) (v:=?_) (a':=?_) M2o rfl rfl (by kernel_rfl) (fun _ _ _ h => h) (Or.inl ⟨by rfl,?_⟩) ?_ ?_
 rotate_left
 ·intro w'
  go_simp
  rfl
 rotate_left
 ·simp only [Act.put,sA,sZ,sS]
  rfl
 refine take_ (i:=4) (N:=some 41) (v:=?_) (a':=?_) M2r rfl rfl (by kernel_rfl) (fun _ _ _ h => h) (Or.inl ⟨by rfl,?_⟩) hHeld ?_ ?_
 rotate_left
 ·intro w' s0
  have hc1:w'.cell? ⟨gp,1,none⟩ = some (.int .u32 (X.sd 0).boot):=(blk_cell s0 1).trans rfl
  clear s0
  go_simp
  rfl
 rotate_left
 ·simp only [Act.put,sA,sZ,sS]
  rfl
 refine pure_ (i:=5) (N:=some 42) (v:=?_) (a':=?_) M2t rfl rfl (by kernel_rfl) (fun _ _ _ h => h) (Or.inl ⟨by rfl,?_⟩) ?_ ?_
 rotate_left
 ·intro w'
  go_simp
  with_reducible rfl
 rotate_left
 ·simp only [Act.put,sA,sZ,sS]
  rfl
 refine pure_ (i:=6) (N:=some 43) (v:=?_) (a':=?_) M2v rfl rfl (by kernel_rfl) (fun _ _ _ h => h) (Or.inl ⟨by rfl,?_⟩) ?_ ?_
 rotate_left
 ·intro w'
  go_simp
  with_reducible rfl
 rotate_left
 ·simp only [Act.put,sA,sZ,sS]
  rfl
 refine pure_ (i:=7) (N:=some 44) (v:=?_) (a':=?_) M2x rfl rfl (by kernel_rfl) (fun _ _ _ h => h) (Or.inl ⟨by rfl,?_⟩) ?_ ?_
 rotate_left
 ·intro w'
  go_simp
  rfl
 rotate_left
 ·simp only [Act.put,sA,sZ,sS]
  rfl
 refine take_ (i:=8) (N:=some 45) (v:=?_) (a':=?_) M2z rfl rfl (by kernel_rfl) (fun _ _ _ h => h) (Or.inl ⟨by rfl,?_⟩) hHeld ?_ ?_
 rotate_left
 ·intro w' s0
  have hc1:w'.cell? ⟨gp,0,none⟩ = some (.pointer (some ⟨ge 0,0,none⟩)):=(blk_cell s0 0).trans rfl
  clear s0
  go_simp
  rfl
 rotate_left
 ·simp only [Act.put,sA,sZ,sS]
  rfl
 refine one_ (i:=9) (N:=some 46) M2A rfl rfl (by kernel_rfl) (by decide) (fun K hK => ?_)
 refine goes_ Try.func71 (by kernel_rfl) rfl #[.pointer (some ⟨ge 0,0,none⟩)] (by rfl) rfl rfl (by (try simp only [List.map_toArray,List.map_cons,List.map_nil]); first | done | rfl) ?_
 have hE:=HD11.out.at_.e 0 (by decide)
 rw [Pr.set_eq] at hE
 refine (Lk.token_of hE).mono ?_
 clear hE
 rintro e w12 ⟨rfl,rfl⟩
 refine ⟨_,rfl,?_⟩
 refine hK.out _ _ hHeld (fun hHeld => ?_)
 clear hK K
 refine norm_ (a':=?_) ?_ ?_
 rotate_left
 ·show Act.put _ (some 46) _ = _
  simp only [Act.put,sA,sZ,sS]
  rfl
 refine pure_ (i:=10) (N:=some 47) (v:=?_) (a':=?_) M2C rfl rfl (by kernel_rfl) (fun _ _ _ h => h) (Or.inl ⟨by rfl,?_⟩) ?_ ?_
 rotate_left
 ·intro w'
  go_simp
  rfl
 rotate_left
 ·simp only [Act.put,sA,sZ,sS]
  rfl
 refine pure_ (i:=11) (N:=some 48) (v:=?_) (a':=?_) M2D rfl rfl (by kernel_rfl) (fun _ _ _ h => h) (Or.inl ⟨by rfl,?_⟩) ?_ ?_
 rotate_left
 ·intro w'
  go_simp
  with_reducible rfl
 rotate_left
 ·simp only [Act.put,sA,sZ,sS]
  rfl
 refine pure_ (i:=12) (N:=some 49) (v:=?_) (a':=?_) M2F rfl rfl (by kernel_rfl) (fun _ _ _ h => h) (Or.inl ⟨by rfl,?_⟩) ?_ ?_
 rotate_left
 ·intro w'
  go_simp
  rfl
 rotate_left
 ·simp only [Act.put,sA,sZ,sS]
  rfl
 refine last_ (i:=13) (N:=none) M2G rfl rfl (by kernel_rfl) (by decide) (fun K hK => ?_)
 have hs6:=six_put HD11.out.at_.blk 3 (.int .i64 0) (.int .u32 (X.sd 0).boot) (.int .u32 L'.token) (.int .u32 0) (.int .u32 0) (.slice none 0 0) (cs':=prow ((({ X with way:=X.way.eraseIdx i }:Pr).set 0 (endF (X.sd 0) L')).set 0 (upS0 (endF (X.sd 0) L'))) ge lv2 wv2) rfl HD11.out.at_.low
 have hrun:=run_storeAt_mid (P:=Try.prog) w11 gp 3 67 #[.int .i64 0,.int .u32 (X.sd 0).boot,.int .u32 L'.token,.int .u32 0,.int .u32 0,.slice none 0 0] (there_of HD11.out.at_.blk 3 6 (by show 9 ≤ 19; decide)) (by kernel_rfl) (by kernel_rfl)
 refine skip_F (fun wz => DV w B gp ge own ((({ X with way:=X.way.eraseIdx i }:Pr).set 0 (endF (X.sd 0) L')).set 0 (upS0 (endF (X.sd 0) L'))) (fun k => k = gp ∨ own 1 k ∨ own 3 k) g7 (.slice A7 0 c7) [] #[.bool hdb,.bool true,.bool false,.slice A7 0 c7] wz own2 lv2 wv2 okb) (by rfl) rfl ⟨_,exec_store_mid 67 (.tmp 49) (.tmp 47) rfl gp 3 #[.int .i64 0,.int .u32 (X.sd 0).boot,.int .u32 L'.token,.int .u32 0,.int .u32 0,.slice none 0 0] rfl rfl hrun,HD11.out.newrow (.inl rfl) hs6.1 hs6.2.1 hs6.2.2 (fun t => ?_) (fun t => ?_) rfl⟩ (fun w12 hF => ?_)
 ·by_cases ht:t = 0
  ·subst ht; rw [Pr.set_eq,Pr.set_eq]; rfl
  ·rw [Pr.set_ne _ ht]
 ·by_cases ht:t = 0
  ·subst ht; rw [Pr.set_eq,Pr.set_eq]; rfl
  ·rw [Pr.set_ne _ ht]
 have HD12:=Lib.hid hF
 clear hF hs6 hrun hHeld HD11
 refine hK.out _ _ ?_
 clear hK K
 refine done_ (by kernel_rfl) ?_
 have he0:w12.cell? ⟨gp,0,none⟩ = some (.pointer (some ⟨ge 0,0,none⟩)):=(blk_cell HD12.out.at_.blk 0).trans rfl
 go_wp2_with (first | (go_at_call 129; (have hc9:=peer_of (HD12.out.at_.e 0 (by decide))); (rw [Pr.set_eq] at hc9); (with_reducible refine hc9.mono ?_); clear hc9; rintro e w13 ⟨rfl,hb13⟩; (have HD13:=Lib.hid (HD12.out.sub hb13)); (clear hb13 HD12 he0)) | ((with_reducible refine gate_ (.store 24 (.tmp 62) (.tmp 58)) rfl ?_); (refine store_F (fun wz => DV w B gp ge own ((({ X with way:=X.way.eraseIdx i }:Pr).set 0 (endF (X.sd 0) L')).set 0 (upS1 (endF (X.sd 0) L'))) (fun k => k = gp ∨ own 1 k ∨ own 3 k) g7 (.slice A7 0 c7) [] #[.bool hdb,.bool true,.bool false,.slice A7 0 c7] wz own2 lv2 wv2 okb) rfl rfl ⟨_,(by have hz1:w13.cell? ⟨gp,6,none⟩ = some _:=(blk_cell HD13.out.at_.blk 6).trans rfl; have hz2:=blk_frozen HD13.out.at_.blk 6; first | (go_simp; done) | (go_simp; rfl)),HD13.out.newrow (.inl rfl) (blk_put HD13.out.at_.blk 6 _ rfl) (Kept.setCell (S:=fun k => k = gp) (Kept.refl _ _) (p:=⟨gp,6,none⟩) (.inl rfl) _) ((Below.refl B _).setCell (p:=⟨gp,6,none⟩) HD13.out.at_.low _) (fun t => by by_cases ht:t = 0; (subst ht; rw [Pr.set_eq,Pr.set_eq]; rfl); (simp only [Pr.set_ne _ ht])) (fun t => by by_cases ht:t = 0; (subst ht; rw [Pr.set_eq,Pr.set_eq]; rfl); (simp only [Pr.set_ne _ ht])) rfl⟩ (fun w14 hF => ?_)); (have HD14:=Lib.hid hF); (clear hF HD13)) | ((with_reducible refine gate_ (.store 24 (.tmp 65) (.tmp 59)) rfl ?_); (refine store_F (fun wz => DV w B gp ge own ((({ X with way:=X.way.eraseIdx i }:Pr).set 0 (endF (X.sd 0) L')).set 0 (upS (endF (X.sd 0) L'))) (fun k => k = gp ∨ own 1 k ∨ own 3 k) g7 (.slice A7 0 c7) [] #[.bool hdb,.bool true,.bool false,.slice A7 0 c7] wz own2 lv2 wv2 okb) rfl rfl ⟨_,(by have hz1:w14.cell? ⟨gp,7,none⟩ = some _:=(blk_cell HD14.out.at_.blk 7).trans rfl; have hz2:=blk_frozen HD14.out.at_.blk 7; first | (go_simp; done) | (go_simp; rfl)),HD14.out.newrow (.inl rfl) (blk_put HD14.out.at_.blk 7 _ rfl) (Kept.setCell (S:=fun k => k = gp) (Kept.refl _ _) (p:=⟨gp,7,none⟩) (.inl rfl) _) ((Below.refl B _).setCell (p:=⟨gp,7,none⟩) HD14.out.at_.low _) (fun t => by by_cases ht:t = 0; (subst ht; rw [Pr.set_eq,Pr.set_eq]; rfl); (simp only [Pr.set_ne _ ht])) (fun t => by by_cases ht:t = 0; (subst ht; rw [Pr.set_eq,Pr.set_eq]; rfl); (simp only [Pr.set_ne _ ht])) rfl⟩ (fun w15 hF => ?_)); (have HD15:=Lib.hid hF); (clear hF HD14)) | (go_at_call 127; (have hc9:Calls Try.prog 127 #[.pointer (some ⟨gp,0,none⟩),.int .i64 1,.slice none 0 0] w15 _:=note_0 HD15.out.at_ 1 [] none 0 (nil_C w15) (by decide) (by rw [Pr.set_eq]; exact HLL.out)); (with_reducible refine hc9.mono ?_); clear hc9; rintro e w12 ⟨rfl,hM⟩; (have HM:=Lib.hid hM); clear hM; (have hu3:w12.cell? ⟨g7,3,none⟩ = some (.slice A7 0 c7):=cell_kept ((blk_cell HD15.out.t7 3).trans rfl) HM.out.choose_spec.choose_spec.choose_spec.2.2.1 (fun hx => hx.elim (fun x => HD15.out.n7.1 x) (fun x => HD15.out.n7.2.1 _ x)))))
 all_goals (go_ret; refine ⟨rfl,?_⟩; (have hM:=HM.out; rw [Pr.set_set,Pr.set_eq,Pr.set_set] at hM; exact Moves.then_ HD15.out.kept HD15.out.below HD15.out.grew hM (fun k hk => hk.elim (fun x => .inl (.inl x)) (fun x => (HD15.out.grew.2 _ k x).elim (fun y => .inl (.inr (.inr y))) .inr))))
set_option maxRecDepth 100000 in
set_option maxHeartbeats 4000000 in
theorem deliver_u_1 {w:World} {B gp:Nat} {ge:Nat → Nat} {own:Nat → Nat → Prop} {X:Pr} {lv:Nat → Value} {wv:Value} (h:PAt w B gp ge own X lv wv) (i:Nat) (hi:i < X.way.length) (hlw:X.way.length ≤ 1024) (bt:Int) (p:Pkt) (hf:X.way.getD i nilF = ⟨1,bt,p⟩) (hbt:0 < bt ∧ bt < 4294967296) (hp:p.Good) (hok:(X.sd 1).end_.Ok) (hll:(X.sd 1).log.length ≤ 1000000) (kind side:Int) (vb:Value) (L':Lk) (hdb:Bool) (hT:takeF (X.sd 1).end_ bt p = (L',⟨hdb,true,false,[]⟩)) :
  Calls Try.prog 112 #[.pointer (some ⟨gp,0,none⟩),.agg #[.int .i64 kind,.int .i64 side,.int .i64 (i:Int),vb]] w fun e w' => e = .returned (.int .i64 0) ∧ Moves w B gp ge own (({ X with way:=X.way.eraseIdx i }:Pr).set 1 (noteF (upS (endF (X.sd 1) L')) 1 [])) (fun k => k = gp ∨ own 2 k ∨ own 4 k) w':=by
 have hba:Below w.heap.size w (w.alloc (.cells #[.int .i64 kind,.int .i64 side,.int .i64 (i:Int),vb] 72)):=(Below.refl _ _).alloc (Nat.le_refl _) _
 have hc2:(w.alloc (.cells #[.int .i64 kind,.int .i64 side,.int .i64 (i:Int),vb] 72)).cell? ⟨w.heap.size,2,none⟩ = some (.int .i64 (i:Int)):=(blk_cell (heap_alloc_new w _) 2).trans rfl
 have HX1:=Lib.hid (h.sub hba)
 have HBA:=Lib.hid hba
 have H:=Lib.hid h
 have HI:=Lib.hid hi
 have HL:=Lib.hid hlw
 have HFF:=Lib.hid hf
 have HBT:=Lib.hid hbt
 have HPG:=Lib.hid hp
 have OK:=Lib.hid hok
 have HLL:=Lib.hid hll
 have HT:=Lib.hid hT
 clear h hba hi hlw hf hbt hp hok hll hT
 go_enter Try.func112,Try.ntmps112
 go_wp2_with (first | (go_at_call 128; (have hc:=out_p HX1.out i HI.out HL.out); rw [HFF.out] at hc; (with_reducible refine hc.mono ?_); clear hc; rintro e w3 ⟨b3,rfl,hR3,hM3⟩; (obtain ⟨Ab,cb,hb3⟩:=Kd.R_slice hR3); (subst hb3); (obtain ⟨own1,lv1,wv1,hP1,hg1,hk1,hb1⟩:=hM3); (have HP1:=Lib.hid hP1); (have HG1:=Lib.hid ((Grew.refl w own).trans HBA.out.size hg1)); (have HK1:=Lib.hid (show Kept w w3 (fun k => k = gp ∨ own 2 k ∨ own 4 k) from (Kept.of_below HBA.out _).then_ hk1 (fun k hk => .inl (.inl hk)))); (have HB1:=Lib.hid ((HBA.out.mono H.out.hB).trans hb1)); (have HR3:=Lib.hid (Kd.R_mono hR3 (fun k hk => hg1.1 5 k hk))); (have HZ3:=Lib.hid (heap_alloc_new w3 (.cells #[.int .i64 0,.int .u32 0,.int .i64 0,.int .u32 0,.int .u32 0,.int .u32 0,.int .u32 0,.int .u32 0,.int .u32 0,.int .u32 0,.complex .f64 0 0,.slice none 0 0] 150))); (have HZB:=Lib.hid (show Below w3.heap.size w3 (w3.alloc (.cells #[.int .i64 0,.int .u32 0,.int .i64 0,.int .u32 0,.int .u32 0,.int .u32 0,.int .u32 0,.int .u32 0,.int .u32 0,.int .u32 0,.complex .f64 0 0,.slice none 0 0] 150)) from (Below.refl _ _).alloc (Nat.le_refl _) _)); (clear hP1 hg1 hk1 hb1 hR3)) | ((with_reducible refine gate_ (.store 150 (.tmp 5) (.tmp 12)) rfl ?_); (refine store_row_F rfl rfl 150 (.tmp 5) (.tmp 12) rfl w3.heap.size #[.int .i64 1,.int .u32 bt,.int .i64 p.kind,.int .u32 p.mine,.int .u32 p.boot,.int .u32 p.yours,.int .u32 p.seq,.int .u32 p.ack,.int .u32 p.stamp,.int .u32 p.echo,.complex .f64 p.zr p.zi,.slice Ab p.body.length cb] rfl rfl 150 _ HZ3.out (by kernel_rfl) rfl (by kernel_rfl) ?_); (intro w4 hb4 hat4); (have HB4:=Lib.hid hb4); (have HBL:=Lib.hid (hat4.below HZB.out (Nat.le_refl _))); (have hd0:w4.cell? ⟨w3.heap.size,0,none⟩ = some (.int .i64 1):=(blk_cell HB4.out 0).trans rfl); (clear hb4 hat4)))
 go_quiet (fail)
 rename Nat => nq1
 go_wp2_with fail
 have hbd:=bl_drew (bl_drewN HBL.out nq1)
 have hSS:(w4.drewN nq1).drew.heap[gp]? = some (.cells (prow ({ X with way:=X.way.eraseIdx i }:Pr) ge lv1 wv1) 143 (0,0)) ∧ (w4.drewN nq1).drew.heap[w3.heap.size]? = some (.cells #[.int .i64 1,.int .u32 bt,.int .i64 p.kind,.int .u32 p.mine,.int .u32 p.boot,.int .u32 p.yours,.int .u32 p.seq,.int .u32 p.ack,.int .u32 p.stamp,.int .u32 p.echo,.complex .f64 p.zr p.zi,.slice Ab p.body.length cb] 150 (0,0)):=⟨(HP1.out.sub hbd).blk,HB4.out⟩
 clear HB4 HBL HZ3 HZB hd0
 refine start_ (n:=15) (S:=fun w' => w'.heap[gp]? = some (.cells (prow ({ X with way:=X.way.eraseIdx i }:Pr) ge lv1 wv1) 143 (0,0)) ∧ w'.heap[w3.heap.size]? = some (.cells #[.int .i64 1,.int .u32 bt,.int .i64 p.kind,.int .u32 p.mine,.int .u32 p.boot,.int .u32 p.yours,.int .u32 p.seq,.int .u32 p.ack,.int .u32 p.stamp,.int .u32 p.echo,.complex .f64 p.zr p.zi,.slice Ab p.body.length cb] 150 (0,0))) (ds:=[13]) M01 (by kernel_rfl) rfl rfl (hSS) (fun hHeld => ?_)
 generalize (w4.drewN nq1).drew = w6 at hbd hHeld ⊢
 have HBD:=Lib.hid hbd
 clear hbd
 refine pure_ (i:=0) (N:=some 20) (v:=?_) (a':=?_) M02 rfl rfl (by kernel_rfl) (fun _ _ _ h => h) (Or.inl ⟨by rfl,?_⟩) ?_ ?_
 rotate_left
 ·intro w'
  go_simp
  with_reducible rfl
 rotate_left
 ·simp only [Act.put,sA,sZ,sS]
  rfl
 refine pure_ (i:=1) (N:=some 21) (v:=?_) (a':=?_) M03 rfl rfl (by kernel_rfl) (fun _ _ _ h => h) (Or.inl ⟨by rfl,?_⟩) ?_ ?_
 rotate_left
 ·intro w'
  go_simp
  with_reducible rfl
 rotate_left
 ·simp only [Act.put,sA,sZ,sS]
  rfl
 refine pure_ (i:=2) (N:=some 22) (v:=?_) (a':=?_) M04 rfl rfl (by kernel_rfl) (fun _ _ _ h => h) (Or.inl ⟨by rfl,?_⟩) ?_ ?_
 rotate_left
 ·intro w'
  go_simp
  rfl
 rotate_left
 ·simp only [Act.put,sA,sZ,sS]
  rfl
 refine take_ (i:=3) (N:=some 23) (v:=?_) (a':=?_) M05 rfl rfl (by kernel_rfl) (fun _ _ _ h => h) (Or.inl ⟨by rfl,?_⟩) hHeld ?_ ?_
 rotate_left
 ·intro w' s0
  have hc2:w'.cell? ⟨gp,9,none⟩ = some (.pointer (some ⟨ge 1,0,none⟩)):=(blk_cell s0.1 9).trans rfl
  clear s0
  go_simp
  rfl
 rotate_left
 ·simp only [Act.put,sA,sZ,sS]
  rfl
 refine pure_ (i:=4) (N:=some 24) (v:=?_) (a':=?_) M06 rfl rfl (by kernel_rfl) (fun _ _ _ h => h) (Or.inl ⟨by rfl,?_⟩) ?_ ?_
 rotate_left
 ·intro w'
  go_simp
  with_reducible rfl
 rotate_left
 ·simp only [Act.put,sA,sZ,sS]
  rfl
 refine take_ (i:=5) (N:=some 25) (v:=?_) (a':=?_) M07 rfl rfl (by kernel_rfl) (fun _ _ _ h => h) (Or.inl ⟨by rfl,?_⟩) hHeld ?_ ?_
 rotate_left
 ·intro w' s0
  have hc3:w'.cell? ⟨w3.heap.size,1,none⟩ = some (.int .u32 bt):=(blk_cell s0.2 1).trans rfl
  clear s0
  go_simp
  with_reducible rfl
 rotate_left
 ·simp only [Act.put,sA,sZ,sS]
  rfl
 refine pure_ (i:=6) (N:=some 26) (v:=?_) (a':=?_) M08 rfl rfl (by kernel_rfl) (fun _ _ _ h => h) (Or.inl ⟨by rfl,?_⟩) ?_ ?_
 rotate_left
 ·intro w'
  go_simp
  with_reducible rfl
 rotate_left
 ·simp only [Act.put,sA,sZ,sS]
  rfl
 refine take_ (i:=7) (N:=some 27) (v:=?_) (a':=?_) M09 rfl rfl (by kernel_rfl) (fun _ _ _ h => h) (Or.inl ⟨by rfl,?_⟩) hHeld ?_ ?_
 rotate_left
 ·intro w' s0
  have hu27:=Try.underlying27
  have hd2:w'.cell? ⟨w3.heap.size,2,none⟩ = some (.int .i64 p.kind):=(blk_cell s0.2 2).trans rfl
  have hd3:w'.cell? ⟨w3.heap.size,3,none⟩ = some (.int .u32 p.mine):=(blk_cell s0.2 3).trans rfl
  have hd4:w'.cell? ⟨w3.heap.size,4,none⟩ = some (.int .u32 p.boot):=(blk_cell s0.2 4).trans rfl
  have hd5:w'.cell? ⟨w3.heap.size,5,none⟩ = some (.int .u32 p.yours):=(blk_cell s0.2 5).trans rfl
  have hd6:w'.cell? ⟨w3.heap.size,6,none⟩ = some (.int .u32 p.seq):=(blk_cell s0.2 6).trans rfl
  have hd7:w'.cell? ⟨w3.heap.size,7,none⟩ = some (.int .u32 p.ack):=(blk_cell s0.2 7).trans rfl
  have hd8:w'.cell? ⟨w3.heap.size,8,none⟩ = some (.int .u32 p.stamp):=(blk_cell s0.2 8).trans rfl
  have hd9:w'.cell? ⟨w3.heap.size,9,none⟩ = some (.int .u32 p.echo):=(blk_cell s0.2 9).trans rfl
  have hd10:w'.cell? ⟨w3.heap.size,10,none⟩ = some (.complex .f64 p.zr p.zi):=(blk_cell s0.2 10).trans rfl
  have hd11:w'.cell? ⟨w3.heap.size,11,none⟩ = some (.slice Ab p.body.length cb):=(blk_cell s0.2 11).trans rfl
  clear s0
  go_simp
  try rfl
 rotate_left
 ·simp only [Act.put,sA,sZ,sS]
  rfl
 refine join_ (σ:=Nat × Option Addr × Nat) 2 M00 (fun s => [(28,.tuple #[.agg #[.bool hdb,.bool true,.bool false,.slice s.2.1 0 s.2.2],.int .i64 0]),(19,.tuple #[.agg #[.bool hdb,.bool true,.bool false,.slice s.2.1 0 s.2.2],.int .i64 0]),(29,.agg #[.bool hdb,.bool true,.bool false,.slice s.2.1 0 s.2.2]),(30,.int .i64 0),(7,.pointer (some ⟨s.1,0,none⟩))]) (fun s w' => DVE w B gp ge own (({ X with way:=X.way.eraseIdx i }:Pr).set 1 (endF (X.sd 1) L')) (fun k => k = gp ∨ own 2 k ∨ own 4 k) s.1 (.slice s.2.1 0 s.2.2) [] #[.bool false,.bool false,.bool false,.slice none 0 0] w') ?_ ?_
 rotate_left
 ·intro hcont
  refine two_ (i:=8) (j:=12) (Ni:=some 28) (Nj:=some 7) M0a M0A rfl rfl rfl rfl (by kernel_rfl) (by decide) (by decide) (fun K hK => ?_) (fun K hK => ?_)
  ·skip
   have hQ6:=(HP1.out.sub HBD.out)
   refine goes_ Try.func34 (by kernel_rfl) rfl #[.pointer (some ⟨ge 1,0,none⟩),.int .u32 bt,.agg #[.int .i64 p.kind,.int .u32 p.mine,.int .u32 p.boot,.int .u32 p.yours,.int .u32 p.seq,.int .u32 p.ack,.int .u32 p.stamp,.int .u32 p.echo,.complex .f64 p.zr p.zi,.slice Ab p.body.length cb]] (by rfl) rfl rfl (by (try simp only [List.map_toArray,List.map_cons,List.map_nil]); first | done | rfl) ?_
   have hc9:Calls Try.prog 34 #[.pointer (some ⟨ge 1,0,none⟩),.int .u32 bt,.agg #[.int .i64 p.kind,.int .u32 p.mine,.int .u32 p.boot,.int .u32 p.yours,.int .u32 p.seq,.int .u32 p.ack,.int .u32 p.stamp,.int .u32 p.echo,.complex .f64 p.zr p.zi,.slice Ab p.body.length cb]] w6 _:=take_end (hQ6.e 1 (by decide)) hQ6.hB OK.out bt p HBT.out HPG.out (cs:=cells p (.slice Ab p.body.length cb)) (okp:=own1 5) (pkt_M.2 ⟨_,rfl,Kd.R_kept HR3.out (Kept.of_below HBD.out (fun _ => False)) (fun _ _ hf => hf)⟩) (fun k hx hy => by have:=hQ6.disj 5 (1 + 1) k hx hy; omega)
   refine hc9.mono ?_
   clear hc9
   intro e w7 hT7
   have hT8:TookT w6 B (own1 (1 + 1)) (ge 1) (L',⟨hdb,true,false,[]⟩) e w7:=by
    have hh:=HT.out
    rw [← hh]
    exact hT7
   clear hT7
   obtain ⟨v7,rfl,⟨A7,c7,hv7⟩,hD⟩:=DV.behind (cs:=#[.bool false,.bool false,.bool false,.slice none 0 0]) (s:=1) (by decide) hQ6 HG1.out (HK1.out.below HBD.out) (HB1.out.trans (HBD.out.mono HP1.out.hB)) (fun k hk => (HG1.out.2 _ k hk).elim (fun x => .inl (.inr (.inl x))) .inr) hT8
   have hv8:v7 = .slice A7 0 c7:=by rw [hv7]; rfl
   subst hv8
   clear hv7
   have HD:=Lib.hid hD
   refine ⟨_,rfl,?_⟩
   have hS7:w7.heap[gp]? = some (.cells (prow ({ X with way:=X.way.eraseIdx i }:Pr) ge lv1 wv1) 143 (0,0)) ∧ w7.heap[w3.heap.size]? = some (.cells #[.int .i64 1,.int .u32 bt,.int .i64 p.kind,.int .u32 p.mine,.int .u32 p.boot,.int .u32 p.yours,.int .u32 p.seq,.int .u32 p.ack,.int .u32 p.stamp,.int .u32 p.echo,.complex .f64 p.zr p.zi,.slice Ab p.body.length cb] 150 (0,0)):=⟨blk_kept hHeld.1 (Took.turns hT8).2.1 (HP1.out.gp0 _),blk_kept hHeld.2 (Took.turns hT8).2.1 (fun hx => by have:=HP1.out.lt _ _ hx; omega)⟩
   clear hT8 hD hQ6 hHeld
   refine hK.out _ _ hS7 (fun hHeld => ?_)
   clear hK K hS7
   refine norm_ (a':=?_) ?_ ?_
   rotate_left
   ·show Act.put _ (some 28) _ = _
    simp only [Act.put,sA,sZ,sS]
    rfl
   refine pure_ (i:=9) (N:=some 19) (v:=?_) (a':=?_) M0b rfl rfl (by kernel_rfl) (fun _ _ _ h => h) (Or.inl ⟨by rfl,?_⟩) ?_ ?_
   rotate_left
   ·intro w'
    go_simp
    with_reducible rfl
   rotate_left
   ·simp only [Act.put,sA,sZ,sS]
    rfl
   refine pure_ (i:=10) (N:=some 29) (v:=?_) (a':=?_) M0c rfl rfl (by kernel_rfl) (fun _ _ _ h => h) (Or.inl ⟨by rfl,?_⟩) ?_ ?_
   rotate_left
   ·intro w'
    go_simp
    with_reducible rfl
   rotate_left
   ·simp only [Act.put,sA,sZ,sS]
    rfl
   refine pure_ (i:=11) (N:=some 30) (v:=?_) (a':=?_) M0d rfl rfl (by kernel_rfl) (fun _ _ _ h => h) (Or.inl ⟨by rfl,?_⟩) ?_ ?_
   rotate_left
   ·intro w'
    go_simp
    with_reducible rfl
   rotate_left
   ·simp only [Act.put,sA,sZ,sS]
    rfl
   refine one_ (i:=12) (N:=some 7) M00 rfl rfl (by kernel_rfl) (by decide) (fun K hK => ?_)
   refine box_step (by rfl) (N:=7) rfl (cs:=#[.bool false,.bool false,.bool false,.slice none 0 0]) (t:=56) (by first | (go_simp; done) | (go_simp; rfl)) ?_
   intro g7 hg7 w8 hbx hb8
   have hS8:w8.heap[gp]? = some (.cells (prow ({ X with way:=X.way.eraseIdx i }:Pr) ge lv1 wv1) 143 (0,0)) ∧ w8.heap[w3.heap.size]? = some (.cells #[.int .i64 1,.int .u32 bt,.int .i64 p.kind,.int .u32 p.mine,.int .u32 p.boot,.int .u32 p.yours,.int .u32 p.seq,.int .u32 p.ack,.int .u32 p.stamp,.int .u32 p.echo,.complex .f64 p.zr p.zi,.slice Ab p.body.length cb] 150 (0,0)):=⟨(hb8.block gp (blk_lt hHeld.1)).trans hHeld.1,(hb8.block _ (blk_lt hHeld.2)).trans hHeld.2⟩
   have HD8:=Lib.hid (HD.out w8 g7 hg7 hbx hb8)
   clear hbx hb8 HD hHeld hg7
   refine hK.out _ _ hS8 (fun hHeld => ?_)
   clear hK K hS8
   refine norm_ (a':=?_) ?_ ?_
   rotate_left
   ·show Act.put _ (some 7) _ = _
    simp only [Act.put,sA,sZ,sS]
    rfl
   have h9:=hcont (g7,A7,c7) _ HD8.out
   simp only [putAll,Act.put,sA,sZ,sS] at h9
   exact h9
  ·skip
   refine box_step (by rfl) (N:=7) rfl (cs:=#[.bool false,.bool false,.bool false,.slice none 0 0]) (t:=56) (by first | (go_simp; done) | (go_simp; rfl)) ?_
   intro g7 hg7 w8 hbx hb8
   have hS8:w8.heap[gp]? = some (.cells (prow ({ X with way:=X.way.eraseIdx i }:Pr) ge lv1 wv1) 143 (0,0)) ∧ w8.heap[w3.heap.size]? = some (.cells #[.int .i64 1,.int .u32 bt,.int .i64 p.kind,.int .u32 p.mine,.int .u32 p.boot,.int .u32 p.yours,.int .u32 p.seq,.int .u32 p.ack,.int .u32 p.stamp,.int .u32 p.echo,.complex .f64 p.zr p.zi,.slice Ab p.body.length cb] 150 (0,0)):=⟨(hb8.block gp (blk_lt hHeld.1)).trans hHeld.1,(hb8.block _ (blk_lt hHeld.2)).trans hHeld.2⟩
   have HQ8:=Lib.hid ((HP1.out.sub HBD.out).sub hb8)
   have hl6:=blk_lt (HP1.out.sub HBD.out).blk
   have hz6:=HBD.out.size
   have hz3:=HK1.out.1
   have HH8:=Lib.hid (show w8.heap[g7]? = some (.cells #[.bool false,.bool false,.bool false,.slice none 0 0] 56 (0,0)) ∧ (g7 ≠ gp ∧ ∀ i,¬ own1 i g7) ∧ w.heap.size ≤ g7 from ⟨hbx,⟨by omega,fun i hi => by have:=(HP1.out.sub HBD.out).lt i g7 hi; omega⟩,by omega⟩)
   have HB8:=Lib.hid hb8
   clear hbx hl6 hz6 hz3 hHeld hg7
   clear hb8
   refine hK.out _ _ hS8 (fun hHeld => ?_)
   clear hK K hS8
   refine norm_ (a':=?_) ?_ ?_
   rotate_left
   ·show Act.put _ (some 7) _ = _
    simp only [Act.put,sA,sZ,sS]
    rfl
   refine one_ (i:=8) (N:=some 28) M0B rfl rfl (by kernel_rfl) (by decide) (fun K hK => ?_)
   have hQ6:=HQ8.out
   refine goes_ Try.func34 (by kernel_rfl) rfl #[.pointer (some ⟨ge 1,0,none⟩),.int .u32 bt,.agg #[.int .i64 p.kind,.int .u32 p.mine,.int .u32 p.boot,.int .u32 p.yours,.int .u32 p.seq,.int .u32 p.ack,.int .u32 p.stamp,.int .u32 p.echo,.complex .f64 p.zr p.zi,.slice Ab p.body.length cb]] (by rfl) rfl rfl (by (try simp only [List.map_toArray,List.map_cons,List.map_nil]); first | done | rfl) ?_
   have hc9:Calls Try.prog 34 #[.pointer (some ⟨ge 1,0,none⟩),.int .u32 bt,.agg #[.int .i64 p.kind,.int .u32 p.mine,.int .u32 p.boot,.int .u32 p.yours,.int .u32 p.seq,.int .u32 p.ack,.int .u32 p.stamp,.int .u32 p.echo,.complex .f64 p.zr p.zi,.slice Ab p.body.length cb]] w8 _:=take_end (hQ6.e 1 (by decide)) hQ6.hB OK.out bt p HBT.out HPG.out (cs:=cells p (.slice Ab p.body.length cb)) (okp:=own1 5) (pkt_M.2 ⟨_,rfl,Kd.R_kept HR3.out (Kept.of_below (HBD.out.trans (HB8.out.mono HBD.out.size)) (fun _ => False)) (fun _ _ hf => hf)⟩) (fun k hx hy => by have:=hQ6.disj 5 (1 + 1) k hx hy; omega)
   refine hc9.mono ?_
   clear hc9
   intro e w7 hT7
   have hT8:TookT w8 B (own1 (1 + 1)) (ge 1) (L',⟨hdb,true,false,[]⟩) e w7:=by
    have hh:=HT.out
    rw [← hh]
    exact hT7
   clear hT7
   obtain ⟨v7,rfl,⟨A7,c7,hv7⟩,hD⟩:=DV.ahead (s:=1) (by decide) hQ6 HG1.out (HK1.out.below (HBD.out.trans (HB8.out.mono HBD.out.size))) (HB1.out.trans ((HBD.out.trans (HB8.out.mono HBD.out.size)).mono HP1.out.hB)) (fun k hk => (HG1.out.2 _ k hk).elim (fun x => .inl (.inr (.inl x))) .inr) HH8.out.1 HH8.out.2.1 HH8.out.2.2 hT8
   have hv8:v7 = .slice A7 0 c7:=by rw [hv7]; rfl
   subst hv8
   clear hv7
   have HD:=Lib.hid hD
   refine ⟨_,rfl,?_⟩
   have hS7:w7.heap[gp]? = some (.cells (prow ({ X with way:=X.way.eraseIdx i }:Pr) ge lv1 wv1) 143 (0,0)) ∧ w7.heap[w3.heap.size]? = some (.cells #[.int .i64 1,.int .u32 bt,.int .i64 p.kind,.int .u32 p.mine,.int .u32 p.boot,.int .u32 p.yours,.int .u32 p.seq,.int .u32 p.ack,.int .u32 p.stamp,.int .u32 p.echo,.complex .f64 p.zr p.zi,.slice Ab p.body.length cb] 150 (0,0)):=⟨blk_kept hHeld.1 (Took.turns hT8).2.1 (HP1.out.gp0 _),blk_kept hHeld.2 (Took.turns hT8).2.1 (fun hx => by have:=HP1.out.lt _ _ hx; omega)⟩
   clear hT8 hD hQ6 hHeld
   refine hK.out _ _ hS7 (fun hHeld => ?_)
   clear hK K hS7
   refine norm_ (a':=?_) ?_ ?_
   rotate_left
   ·show Act.put _ (some 28) _ = _
    simp only [Act.put,sA,sZ,sS]
    rfl
   refine pure_ (i:=9) (N:=some 19) (v:=?_) (a':=?_) M0C rfl rfl (by kernel_rfl) (fun _ _ _ h => h) (Or.inl ⟨by rfl,?_⟩) ?_ ?_
   rotate_left
   ·intro w'
    go_simp
    with_reducible rfl
   rotate_left
   ·simp only [Act.put,sA,sZ,sS]
    rfl
   refine pure_ (i:=10) (N:=some 29) (v:=?_) (a':=?_) M0D rfl rfl (by kernel_rfl) (fun _ _ _ h => h) (Or.inl ⟨by rfl,?_⟩) ?_ ?_
   rotate_left
   ·intro w'
    go_simp
    with_reducible rfl
   rotate_left
   ·simp only [Act.put,sA,sZ,sS]
    rfl
   refine pure_ (i:=11) (N:=some 30) (v:=?_) (a':=?_) M00 rfl rfl (by kernel_rfl) (fun _ _ _ h => h) (Or.inl ⟨by rfl,?_⟩) ?_ ?_
   rotate_left
   ·intro w'
    go_simp
    with_reducible rfl
   rotate_left
   ·simp only [Act.put,sA,sZ,sS]
    rfl
   have h9:=hcont (g7,A7,c7) _ HD.out
   simp only [putAll,Act.put,sA,sZ,sS] at h9
   exact h9
 intro s9 w9 hF
 obtain ⟨g7,A7,c7⟩:=s9
 obtain ⟨own2,lv2,wv2,okb,hD⟩:=hF
 have HD:=Lib.hid hD
 clear hD
 refine norm_ (a':=?_) ?_ ?_
 rotate_left
 ·show putAll _ _ = _
  simp only [putAll,Act.put,sA,sZ,sS]
  rfl
 have hc0:w9.cell? ⟨g7,0,none⟩ = some (.bool false):=(blk_cell HD.out.t7 0).trans rfl
 have hf0:=blk_frozen HD.out.t7 0
 have hc1:w9.cell? ⟨g7,1,none⟩ = some (.bool false):=(blk_cell HD.out.t7 1).trans rfl
 have hf1:=blk_frozen HD.out.t7 1
 have hc2:w9.cell? ⟨g7,2,none⟩ = some (.bool false):=(blk_cell HD.out.t7 2).trans rfl
 have hf2:=blk_frozen HD.out.t7 2
 have hc3:w9.cell? ⟨g7,3,none⟩ = some (.slice none 0 0):=(blk_cell HD.out.t7 3).trans rfl
 have hf3:=blk_frozen HD.out.t7 3
 refine last_ (i:=13) (N:=none) M0e rfl rfl (by kernel_rfl) (by decide) (fun K hK => ?_)
 refine skip_F (fun wz => wz.heap[g7]? = some (.cells #[.bool hdb,.bool true,.bool false,.slice A7 0 c7] 56 (0,0)) ∧ Steps.At g7 w9 wz) (by rfl) rfl ⟨_,by go_simp; rfl,?_,?_⟩ (fun w10 hF => ?_)
 ·skip
  have hb1:=blk_put HD.out.t7 0 (.bool hdb) (cs':=#[.bool hdb,.bool false,.bool false,.slice none 0 0]) rfl
  have hb2:=blk_put hb1 1 (.bool true) (cs':=#[.bool hdb,.bool true,.bool false,.slice none 0 0]) rfl
  have hb3:=blk_put hb2 2 (.bool false) (cs':=#[.bool hdb,.bool true,.bool false,.slice none 0 0]) rfl
  have hb4:=blk_put hb3 3 (.slice A7 0 c7) (cs':=#[.bool hdb,.bool true,.bool false,.slice A7 0 c7]) rfl
  exact hb4
 ·repeat (first | (with_reducible exact Steps.At.refl _ _) | refine Steps.At.set ?_ _ _)
 have HD10:=Lib.hid (HD.out.write H.out.hB hF.1 hF.2)
 clear hF HD hc0 hf0 hc1 hf1 hc2 hf2 hc3 hf3
 refine hK.out _ _ ?_
 clear hK K
 refine pure_ (i:=14) (N:=some 8) (v:=?_) (a':=?_) M0f rfl rfl (by kernel_rfl) (fun _ _ _ h => h) (Or.inl ⟨by rfl,?_⟩) ?_ ?_
 rotate_left
 ·intro w'
  go_simp
  with_reducible rfl
 rotate_left
 ·simp only [Act.put,sA,sZ,sS]
  rfl
 refine done_ (by kernel_rfl) ?_
 have ht1:w10.cell? ⟨g7,1,none⟩ = some (.bool true):=(blk_cell HD10.out.t7 1).trans rfl
 have ht2:w10.cell? ⟨g7,2,none⟩ = some (.bool false):=(blk_cell HD10.out.t7 2).trans rfl
 go_wp2_with fail
 have hbd:=bl_drew (Below.refl w10.heap.size w10)
 have hD11:=HD10.out.sub hbd
 have hS7:w10.drew.heap[gp]? = some (.cells (prow (({ X with way:=X.way.eraseIdx i }:Pr).set 1 (endF (X.sd 1) L')) ge lv2 wv2) 143 (0,0)):=hD11.at_.blk
 clear HD10 hbd ht1 ht2
 refine start_ (n:=14) (S:=fun w' => w'.heap[gp]? = some (.cells (prow (({ X with way:=X.way.eraseIdx i }:Pr).set 1 (endF (X.sd 1) L')) ge lv2 wv2) 143 (0,0))) (ds:=[13]) M2f (by kernel_rfl) rfl rfl (hS7) (fun hHeld => ?_)
 generalize w10.drew = w11 at hD11 hHeld ⊢
 have HD11:=Lib.hid hD11
 clear hD11
 refine pure_ (i:=0) (N:=some 37) (v:=?_) (a':=?_) M2i rfl rfl (by kernel_rfl) (fun _ _ _ h => h) (Or.inl ⟨by rfl,?_⟩) ?_ ?_
 rotate_left
 ·intro w'
  go_simp
  with_reducible rfl
 rotate_left
 ·simp only [Act.put,sA,sZ,sS]
  rfl
 refine pure_ (i:=1) (N:=some 38) (v:=?_) (a':=?_) M2k rfl rfl (by kernel_rfl) (fun _ _ _ h => h) (Or.inl ⟨by rfl,?_⟩) ?_ ?_
 rotate_left
 ·intro w'
  go_simp
  with_reducible rfl
 rotate_left
 ·simp only [Act.put,sA,sZ,sS]
  rfl
 refine pure_ (i:=2) (N:=some 39) (v:=?_) (a':=?_) M2n rfl rfl (by kernel_rfl) (fun _ _ _ h => h) (Or.inl ⟨by rfl,?_⟩) ?_ ?_
 rotate_left
 ·intro w'
  go_simp
  with_reducible rfl
 rotate_left
 ·simp only [Act.put,sA,sZ,sS]
  rfl
 refine pure_ (i:=3) (N:=some 40) (v:=?_) (a':=?_) M2o rfl rfl (by kernel_rfl) (fun _ _ _ h => h) (Or.inl ⟨by rfl,?_⟩) ?_ ?_
 rotate_left
 ·intro w'
  go_simp
  rfl
 rotate_left
 ·simp only [Act.put,sA,sZ,sS]
  rfl
 refine take_ (i:=4) (N:=some 41) (v:=?_) (a':=?_) M2r rfl rfl (by kernel_rfl) (fun _ _ _ h => h) (Or.inl ⟨by rfl,?_⟩) hHeld ?_ ?_
 rotate_left
 ·intro w' s0
  have hc1:w'.cell? ⟨gp,10,none⟩ = some (.int .u32 (X.sd 1).boot):=(blk_cell s0 10).trans rfl
  clear s0
  go_simp
  rfl
 rotate_left
 ·simp only [Act.put,sA,sZ,sS]
  rfl
 refine pure_ (i:=5) (N:=some 42) (v:=?_) (a':=?_) M2t rfl rfl (by kernel_rfl) (fun _ _ _ h => h) (Or.inl ⟨by rfl,?_⟩) ?_ ?_
 rotate_left
 ·intro w'
  go_simp
  with_reducible rfl
 rotate_left
 ·simp only [Act.put,sA,sZ,sS]
  rfl
 refine pure_ (i:=6) (N:=some 43) (v:=?_) (a':=?_) M2v rfl rfl (by kernel_rfl) (fun _ _ _ h => h) (Or.inl ⟨by rfl,?_⟩) ?_ ?_
 rotate_left
 ·intro w'
  go_simp
  with_reducible rfl
 rotate_left
 ·simp only [Act.put,sA,sZ,sS]
  rfl
 refine pure_ (i:=7) (N:=some 44) (v:=?_) (a':=?_) M2x rfl rfl (by kernel_rfl) (fun _ _ _ h => h) (Or.inl ⟨by rfl,?_⟩) ?_ ?_
 rotate_left
 ·intro w'
  go_simp
  rfl
 rotate_left
 ·simp only [Act.put,sA,sZ,sS]
  rfl
 refine take_ (i:=8) (N:=some 45) (v:=?_) (a':=?_) M2z rfl rfl (by kernel_rfl) (fun _ _ _ h => h) (Or.inl ⟨by rfl,?_⟩) hHeld ?_ ?_
 rotate_left
 ·intro w' s0
  have hc1:w'.cell? ⟨gp,9,none⟩ = some (.pointer (some ⟨ge 1,0,none⟩)):=(blk_cell s0 9).trans rfl
  clear s0
  go_simp
  rfl
 rotate_left
 ·simp only [Act.put,sA,sZ,sS]
  rfl
 refine one_ (i:=9) (N:=some 46) M2A rfl rfl (by kernel_rfl) (by decide) (fun K hK => ?_)
 refine goes_ Try.func71 (by kernel_rfl) rfl #[.pointer (some ⟨ge 1,0,none⟩)] (by rfl) rfl rfl (by (try simp only [List.map_toArray,List.map_cons,List.map_nil]); first | done | rfl) ?_
 have hE:=HD11.out.at_.e 1 (by decide)
 rw [Pr.set_eq] at hE
 refine (Lk.token_of hE).mono ?_
 clear hE
 rintro e w12 ⟨rfl,rfl⟩
 refine ⟨_,rfl,?_⟩
 refine hK.out _ _ hHeld (fun hHeld => ?_)
 clear hK K
 refine norm_ (a':=?_) ?_ ?_
 rotate_left
 ·show Act.put _ (some 46) _ = _
  simp only [Act.put,sA,sZ,sS]
  rfl
 refine pure_ (i:=10) (N:=some 47) (v:=?_) (a':=?_) M2C rfl rfl (by kernel_rfl) (fun _ _ _ h => h) (Or.inl ⟨by rfl,?_⟩) ?_ ?_
 rotate_left
 ·intro w'
  go_simp
  rfl
 rotate_left
 ·simp only [Act.put,sA,sZ,sS]
  rfl
 refine pure_ (i:=11) (N:=some 48) (v:=?_) (a':=?_) M2D rfl rfl (by kernel_rfl) (fun _ _ _ h => h) (Or.inl ⟨by rfl,?_⟩) ?_ ?_
 rotate_left
 ·intro w'
  go_simp
  with_reducible rfl
 rotate_left
 ·simp only [Act.put,sA,sZ,sS]
  rfl
 refine pure_ (i:=12) (N:=some 49) (v:=?_) (a':=?_) M2F rfl rfl (by kernel_rfl) (fun _ _ _ h => h) (Or.inl ⟨by rfl,?_⟩) ?_ ?_
 rotate_left
 ·intro w'
  go_simp
  rfl
 rotate_left
 ·simp only [Act.put,sA,sZ,sS]
  rfl
 refine last_ (i:=13) (N:=none) M2G rfl rfl (by kernel_rfl) (by decide) (fun K hK => ?_)
 have hs6:=six_put HD11.out.at_.blk 12 (.int .i64 0) (.int .u32 (X.sd 1).boot) (.int .u32 L'.token) (.int .u32 0) (.int .u32 0) (.slice none 0 0) (cs':=prow ((({ X with way:=X.way.eraseIdx i }:Pr).set 1 (endF (X.sd 1) L')).set 1 (upS0 (endF (X.sd 1) L'))) ge lv2 wv2) rfl HD11.out.at_.low
 have hrun:=run_storeAt_mid (P:=Try.prog) w11 gp 12 67 #[.int .i64 0,.int .u32 (X.sd 1).boot,.int .u32 L'.token,.int .u32 0,.int .u32 0,.slice none 0 0] (there_of HD11.out.at_.blk 12 6 (by show 18 ≤ 19; decide)) (by kernel_rfl) (by kernel_rfl)
 refine skip_F (fun wz => DV w B gp ge own ((({ X with way:=X.way.eraseIdx i }:Pr).set 1 (endF (X.sd 1) L')).set 1 (upS0 (endF (X.sd 1) L'))) (fun k => k = gp ∨ own 2 k ∨ own 4 k) g7 (.slice A7 0 c7) [] #[.bool hdb,.bool true,.bool false,.slice A7 0 c7] wz own2 lv2 wv2 okb) (by rfl) rfl ⟨_,exec_store_mid 67 (.tmp 49) (.tmp 47) rfl gp 12 #[.int .i64 0,.int .u32 (X.sd 1).boot,.int .u32 L'.token,.int .u32 0,.int .u32 0,.slice none 0 0] rfl rfl hrun,HD11.out.newrow (.inl rfl) hs6.1 hs6.2.1 hs6.2.2 (fun t => ?_) (fun t => ?_) rfl⟩ (fun w12 hF => ?_)
 ·by_cases ht:t = 1
  ·subst ht; rw [Pr.set_eq,Pr.set_eq]; rfl
  ·rw [Pr.set_ne _ ht]
 ·by_cases ht:t = 1
  ·subst ht; rw [Pr.set_eq,Pr.set_eq]; rfl
  ·rw [Pr.set_ne _ ht]
 have HD12:=Lib.hid hF
 clear hF hs6 hrun hHeld HD11
 refine hK.out _ _ ?_
 clear hK K
 refine done_ (by kernel_rfl) ?_
 have he0:w12.cell? ⟨gp,9,none⟩ = some (.pointer (some ⟨ge 1,0,none⟩)):=(blk_cell HD12.out.at_.blk 9).trans rfl
 go_wp2_with (first | (go_at_call 129; (have hc9:=peer_of (HD12.out.at_.e 1 (by decide))); (rw [Pr.set_eq] at hc9); (with_reducible refine hc9.mono ?_); clear hc9; rintro e w13 ⟨rfl,hb13⟩; (have HD13:=Lib.hid (HD12.out.sub hb13)); (clear hb13 HD12 he0)) | ((with_reducible refine gate_ (.store 24 (.tmp 62) (.tmp 58)) rfl ?_); (refine store_F (fun wz => DV w B gp ge own ((({ X with way:=X.way.eraseIdx i }:Pr).set 1 (endF (X.sd 1) L')).set 1 (upS1 (endF (X.sd 1) L'))) (fun k => k = gp ∨ own 2 k ∨ own 4 k) g7 (.slice A7 0 c7) [] #[.bool hdb,.bool true,.bool false,.slice A7 0 c7] wz own2 lv2 wv2 okb) rfl rfl ⟨_,(by have hz1:w13.cell? ⟨gp,15,none⟩ = some _:=(blk_cell HD13.out.at_.blk 15).trans rfl; have hz2:=blk_frozen HD13.out.at_.blk 15; first | (go_simp; done) | (go_simp; rfl)),HD13.out.newrow (.inl rfl) (blk_put HD13.out.at_.blk 15 _ rfl) (Kept.setCell (S:=fun k => k = gp) (Kept.refl _ _) (p:=⟨gp,15,none⟩) (.inl rfl) _) ((Below.refl B _).setCell (p:=⟨gp,15,none⟩) HD13.out.at_.low _) (fun t => by by_cases ht:t = 1; (subst ht; rw [Pr.set_eq,Pr.set_eq]; rfl); (simp only [Pr.set_ne _ ht])) (fun t => by by_cases ht:t = 1; (subst ht; rw [Pr.set_eq,Pr.set_eq]; rfl); (simp only [Pr.set_ne _ ht])) rfl⟩ (fun w14 hF => ?_)); (have HD14:=Lib.hid hF); (clear hF HD13)) | ((with_reducible refine gate_ (.store 24 (.tmp 65) (.tmp 59)) rfl ?_); (refine store_F (fun wz => DV w B gp ge own ((({ X with way:=X.way.eraseIdx i }:Pr).set 1 (endF (X.sd 1) L')).set 1 (upS (endF (X.sd 1) L'))) (fun k => k = gp ∨ own 2 k ∨ own 4 k) g7 (.slice A7 0 c7) [] #[.bool hdb,.bool true,.bool false,.slice A7 0 c7] wz own2 lv2 wv2 okb) rfl rfl ⟨_,(by have hz1:w14.cell? ⟨gp,16,none⟩ = some _:=(blk_cell HD14.out.at_.blk 16).trans rfl; have hz2:=blk_frozen HD14.out.at_.blk 16; first | (go_simp; done) | (go_simp; rfl)),HD14.out.newrow (.inl rfl) (blk_put HD14.out.at_.blk 16 _ rfl) (Kept.setCell (S:=fun k => k = gp) (Kept.refl _ _) (p:=⟨gp,16,none⟩) (.inl rfl) _) ((Below.refl B _).setCell (p:=⟨gp,16,none⟩) HD14.out.at_.low _) (fun t => by by_cases ht:t = 1; (subst ht; rw [Pr.set_eq,Pr.set_eq]; rfl); (simp only [Pr.set_ne _ ht])) (fun t => by by_cases ht:t = 1; (subst ht; rw [Pr.set_eq,Pr.set_eq]; rfl); (simp only [Pr.set_ne _ ht])) rfl⟩ (fun w15 hF => ?_)); (have HD15:=Lib.hid hF); (clear hF HD14)) | (go_at_call 127; (have hc9:Calls Try.prog 127 #[.pointer (some ⟨gp,9,none⟩),.int .i64 1,.slice none 0 0] w15 _:=note_1 HD15.out.at_ 1 [] none 0 (nil_C w15) (by decide) (by rw [Pr.set_eq]; exact HLL.out)); (with_reducible refine hc9.mono ?_); clear hc9; rintro e w12 ⟨rfl,hM⟩; (have HM:=Lib.hid hM); clear hM; (have hu3:w12.cell? ⟨g7,3,none⟩ = some (.slice A7 0 c7):=cell_kept ((blk_cell HD15.out.t7 3).trans rfl) HM.out.choose_spec.choose_spec.choose_spec.2.2.1 (fun hx => hx.elim (fun x => HD15.out.n7.1 x) (fun x => HD15.out.n7.2.1 _ x)))))
 all_goals (go_ret; refine ⟨rfl,?_⟩; (have hM:=HM.out; rw [Pr.set_set,Pr.set_eq,Pr.set_set] at hM; exact Moves.then_ HD15.out.kept HD15.out.below HD15.out.grew hM (fun k hk => hk.elim (fun x => .inl (.inl x)) (fun x => (HD15.out.grew.2 _ k x).elim (fun y => .inl (.inr (.inr y))) .inr))))
end Go.Proofs.Ytnkkgofpifhoeaa.Pr
end
section
namespace Go.Proofs.Ytnkkgofpifhoeaa.Pr
open Go.RowKit Go.Proofs.Ytnkkgofpifhoeaa.Base Go.Proofs.Ytnkkgofpifhoeaa.Steps Go.Proofs.Ytnkkgofpifhoeaa.Lk Go.Proofs.Ytnkkgofpifhoeaa.Win Go.Proofs.YtnkkgofpifhoeaaW.PrintWords Go.Proofs.YtnkkgofpifhoeaaW.PrintLast
set_option maxRecDepth 100000 in
set_option maxHeartbeats 4000000 in
theorem deliver_g_0 {w:World} {B gp:Nat} {ge:Nat → Nat} {own:Nat → Nat → Prop} {X:Pr} {lv:Nat → Value} {wv:Value} (h:PAt w B gp ge own X lv wv) (i:Nat) (hi:i < X.way.length) (hlw:X.way.length ≤ 1024) (bt:Int) (p:Pkt) (hf:X.way.getD i nilF = ⟨0,bt,p⟩) (hbt:0 < bt ∧ bt < 4294967296) (hp:p.Good) (hok:(X.sd 0).end_.Ok) (hll:(X.sd 0).log.length ≤ 1000000) (kind side:Int) (vb:Value) (L':Lk) (hdb:Bool) (body:List Int) (hbl:body.length ≤ 1000000) (hpos:0 < body.length) (hT:takeF (X.sd 0).end_ bt p = (L',⟨hdb,false,false,body⟩)) :
  Calls Try.prog 112 #[.pointer (some ⟨gp,0,none⟩),.agg #[.int .i64 kind,.int .i64 side,.int .i64 (i:Int),vb]] w fun e w' => e = .returned (.int .i64 0) ∧ Moves w B gp ge own (({ X with way:=X.way.eraseIdx i }:Pr).set 0 (noteF (endF (X.sd 0) L') 4 body)) (fun k => k = gp ∨ own 1 k ∨ own 3 k) w':=by
 have hba:Below w.heap.size w (w.alloc (.cells #[.int .i64 kind,.int .i64 side,.int .i64 (i:Int),vb] 72)):=(Below.refl _ _).alloc (Nat.le_refl _) _
 have hc2:(w.alloc (.cells #[.int .i64 kind,.int .i64 side,.int .i64 (i:Int),vb] 72)).cell? ⟨w.heap.size,2,none⟩ = some (.int .i64 (i:Int)):=(blk_cell (heap_alloc_new w _) 2).trans rfl
 have HX1:=Lib.hid (h.sub hba)
 have HBA:=Lib.hid hba
 have H:=Lib.hid h
 have HI:=Lib.hid hi
 have HL:=Lib.hid hlw
 have HFF:=Lib.hid hf
 have HBT:=Lib.hid hbt
 have HPG:=Lib.hid hp
 have OK:=Lib.hid hok
 have HLL:=Lib.hid hll
 have HT:=Lib.hid hT
 clear h hba hi hlw hf hbt hp hok hll hT
 have HBLN:=Lib.hid hbl
 have HPOS:=Lib.hid hpos
 clear hbl hpos
 generalize hnb:body.length = nb at *
 have HNB:=Lib.hid hnb
 clear hnb
 go_enter Try.func112,Try.ntmps112
 go_wp2_with (first | (go_at_call 128; (have hc:=out_p HX1.out i HI.out HL.out); rw [HFF.out] at hc; (with_reducible refine hc.mono ?_); clear hc; rintro e w3 ⟨b3,rfl,hR3,hM3⟩; (obtain ⟨Ab,cb,hb3⟩:=Kd.R_slice hR3); (subst hb3); (obtain ⟨own1,lv1,wv1,hP1,hg1,hk1,hb1⟩:=hM3); (have HP1:=Lib.hid hP1); (have HG1:=Lib.hid ((Grew.refl w own).trans HBA.out.size hg1)); (have HK1:=Lib.hid (show Kept w w3 (fun k => k = gp ∨ own 1 k ∨ own 3 k) from (Kept.of_below HBA.out _).then_ hk1 (fun k hk => .inl (.inl hk)))); (have HB1:=Lib.hid ((HBA.out.mono H.out.hB).trans hb1)); (have HR3:=Lib.hid (Kd.R_mono hR3 (fun k hk => hg1.1 5 k hk))); (have HZ3:=Lib.hid (heap_alloc_new w3 (.cells #[.int .i64 0,.int .u32 0,.int .i64 0,.int .u32 0,.int .u32 0,.int .u32 0,.int .u32 0,.int .u32 0,.int .u32 0,.int .u32 0,.complex .f64 0 0,.slice none 0 0] 150))); (have HZB:=Lib.hid (show Below w3.heap.size w3 (w3.alloc (.cells #[.int .i64 0,.int .u32 0,.int .i64 0,.int .u32 0,.int .u32 0,.int .u32 0,.int .u32 0,.int .u32 0,.int .u32 0,.int .u32 0,.complex .f64 0 0,.slice none 0 0] 150)) from (Below.refl _ _).alloc (Nat.le_refl _) _)); (clear hP1 hg1 hk1 hb1 hR3)) | ((with_reducible refine gate_ (.store 150 (.tmp 5) (.tmp 12)) rfl ?_); (refine store_row_F rfl rfl 150 (.tmp 5) (.tmp 12) rfl w3.heap.size #[.int .i64 0,.int .u32 bt,.int .i64 p.kind,.int .u32 p.mine,.int .u32 p.boot,.int .u32 p.yours,.int .u32 p.seq,.int .u32 p.ack,.int .u32 p.stamp,.int .u32 p.echo,.complex .f64 p.zr p.zi,.slice Ab p.body.length cb] rfl rfl 150 _ HZ3.out (by kernel_rfl) rfl (by kernel_rfl) ?_); (intro w4 hb4 hat4); (have HB4:=Lib.hid hb4); (have HBL:=Lib.hid (hat4.below HZB.out (Nat.le_refl _))); (have hd0:w4.cell? ⟨w3.heap.size,0,none⟩ = some (.int .i64 0):=(blk_cell HB4.out 0).trans rfl); (clear hb4 hat4)))
 go_quiet (fail)
 rename Nat => nq1
 go_wp2_with fail
 have hbd:=bl_drew (bl_drewN HBL.out nq1)
 have hSS:(w4.drewN nq1).drew.heap[gp]? = some (.cells (prow ({ X with way:=X.way.eraseIdx i }:Pr) ge lv1 wv1) 143 (0,0)) ∧ (w4.drewN nq1).drew.heap[w3.heap.size]? = some (.cells #[.int .i64 0,.int .u32 bt,.int .i64 p.kind,.int .u32 p.mine,.int .u32 p.boot,.int .u32 p.yours,.int .u32 p.seq,.int .u32 p.ack,.int .u32 p.stamp,.int .u32 p.echo,.complex .f64 p.zr p.zi,.slice Ab p.body.length cb] 150 (0,0)):=⟨(HP1.out.sub hbd).blk,HB4.out⟩
 clear HB4 HBL HZ3 HZB hd0
 refine start_ (n:=15) (S:=fun w' => w'.heap[gp]? = some (.cells (prow ({ X with way:=X.way.eraseIdx i }:Pr) ge lv1 wv1) 143 (0,0)) ∧ w'.heap[w3.heap.size]? = some (.cells #[.int .i64 0,.int .u32 bt,.int .i64 p.kind,.int .u32 p.mine,.int .u32 p.boot,.int .u32 p.yours,.int .u32 p.seq,.int .u32 p.ack,.int .u32 p.stamp,.int .u32 p.echo,.complex .f64 p.zr p.zi,.slice Ab p.body.length cb] 150 (0,0))) (ds:=[13]) M01 (by kernel_rfl) rfl rfl (hSS) (fun hHeld => ?_)
 generalize (w4.drewN nq1).drew = w6 at hbd hHeld ⊢
 have HBD:=Lib.hid hbd
 clear hbd
 refine pure_ (i:=0) (N:=some 20) (v:=?_) (a':=?_) M02 rfl rfl (by kernel_rfl) (fun _ _ _ h => h) (Or.inl ⟨by rfl,?_⟩) ?_ ?_
 rotate_left
 ·intro w'
  go_simp
  with_reducible rfl
 rotate_left
 ·simp only [Act.put,sA,sZ,sS]
  rfl
 refine pure_ (i:=1) (N:=some 21) (v:=?_) (a':=?_) M03 rfl rfl (by kernel_rfl) (fun _ _ _ h => h) (Or.inl ⟨by rfl,?_⟩) ?_ ?_
 rotate_left
 ·intro w'
  go_simp
  with_reducible rfl
 rotate_left
 ·simp only [Act.put,sA,sZ,sS]
  rfl
 refine pure_ (i:=2) (N:=some 22) (v:=?_) (a':=?_) M04 rfl rfl (by kernel_rfl) (fun _ _ _ h => h) (Or.inl ⟨by rfl,?_⟩) ?_ ?_
 rotate_left
 ·intro w'
  go_simp
  rfl
 rotate_left
 ·simp only [Act.put,sA,sZ,sS]
  rfl
 refine take_ (i:=3) (N:=some 23) (v:=?_) (a':=?_) M05 rfl rfl (by kernel_rfl) (fun _ _ _ h => h) (Or.inl ⟨by rfl,?_⟩) hHeld ?_ ?_
 rotate_left
 ·intro w' s0
  have hc2:w'.cell? ⟨gp,0,none⟩ = some (.pointer (some ⟨ge 0,0,none⟩)):=(blk_cell s0.1 0).trans rfl
  clear s0
  go_simp
  rfl
 rotate_left
 ·simp only [Act.put,sA,sZ,sS]
  rfl
 refine pure_ (i:=4) (N:=some 24) (v:=?_) (a':=?_) M06 rfl rfl (by kernel_rfl) (fun _ _ _ h => h) (Or.inl ⟨by rfl,?_⟩) ?_ ?_
 rotate_left
 ·intro w'
  go_simp
  with_reducible rfl
 rotate_left
 ·simp only [Act.put,sA,sZ,sS]
  rfl
 refine take_ (i:=5) (N:=some 25) (v:=?_) (a':=?_) M07 rfl rfl (by kernel_rfl) (fun _ _ _ h => h) (Or.inl ⟨by rfl,?_⟩) hHeld ?_ ?_
 rotate_left
 ·intro w' s0
  have hc3:w'.cell? ⟨w3.heap.size,1,none⟩ = some (.int .u32 bt):=(blk_cell s0.2 1).trans rfl
  clear s0
  go_simp
  with_reducible rfl
 rotate_left
 ·simp only [Act.put,sA,sZ,sS]
  rfl
 refine pure_ (i:=6) (N:=some 26) (v:=?_) (a':=?_) M08 rfl rfl (by kernel_rfl) (fun _ _ _ h => h) (Or.inl ⟨by rfl,?_⟩) ?_ ?_
 rotate_left
 ·intro w'
  go_simp
  with_reducible rfl
 rotate_left
 ·simp only [Act.put,sA,sZ,sS]
  rfl
 refine take_ (i:=7) (N:=some 27) (v:=?_) (a':=?_) M09 rfl rfl (by kernel_rfl) (fun _ _ _ h => h) (Or.inl ⟨by rfl,?_⟩) hHeld ?_ ?_
 rotate_left
 ·intro w' s0
  have hu27:=Try.underlying27
  have hd2:w'.cell? ⟨w3.heap.size,2,none⟩ = some (.int .i64 p.kind):=(blk_cell s0.2 2).trans rfl
  have hd3:w'.cell? ⟨w3.heap.size,3,none⟩ = some (.int .u32 p.mine):=(blk_cell s0.2 3).trans rfl
  have hd4:w'.cell? ⟨w3.heap.size,4,none⟩ = some (.int .u32 p.boot):=(blk_cell s0.2 4).trans rfl
  have hd5:w'.cell? ⟨w3.heap.size,5,none⟩ = some (.int .u32 p.yours):=(blk_cell s0.2 5).trans rfl
  have hd6:w'.cell? ⟨w3.heap.size,6,none⟩ = some (.int .u32 p.seq):=(blk_cell s0.2 6).trans rfl
  have hd7:w'.cell? ⟨w3.heap.size,7,none⟩ = some (.int .u32 p.ack):=(blk_cell s0.2 7).trans rfl
  have hd8:w'.cell? ⟨w3.heap.size,8,none⟩ = some (.int .u32 p.stamp):=(blk_cell s0.2 8).trans rfl
  have hd9:w'.cell? ⟨w3.heap.size,9,none⟩ = some (.int .u32 p.echo):=(blk_cell s0.2 9).trans rfl
  have hd10:w'.cell? ⟨w3.heap.size,10,none⟩ = some (.complex .f64 p.zr p.zi):=(blk_cell s0.2 10).trans rfl
  have hd11:w'.cell? ⟨w3.heap.size,11,none⟩ = some (.slice Ab p.body.length cb):=(blk_cell s0.2 11).trans rfl
  clear s0
  go_simp
  try rfl
 rotate_left
 ·simp only [Act.put,sA,sZ,sS]
  rfl
 refine join_ (σ:=Nat × Option Addr × Nat) 2 M00 (fun s => [(28,.tuple #[.agg #[.bool hdb,.bool false,.bool false,.slice s.2.1 nb s.2.2],.int .i64 0]),(19,.tuple #[.agg #[.bool hdb,.bool false,.bool false,.slice s.2.1 nb s.2.2],.int .i64 0]),(29,.agg #[.bool hdb,.bool false,.bool false,.slice s.2.1 nb s.2.2]),(30,.int .i64 0),(7,.pointer (some ⟨s.1,0,none⟩))]) (fun s w' => DVE w B gp ge own (({ X with way:=X.way.eraseIdx i }:Pr).set 0 (endF (X.sd 0) L')) (fun k => k = gp ∨ own 1 k ∨ own 3 k) s.1 (.slice s.2.1 nb s.2.2) body #[.bool false,.bool false,.bool false,.slice none 0 0] w') ?_ ?_
 rotate_left
 ·intro hcont
  refine two_ (i:=8) (j:=12) (Ni:=some 28) (Nj:=some 7) M0a M0A rfl rfl rfl rfl (by kernel_rfl) (by decide) (by decide) (fun K hK => ?_) (fun K hK => ?_)
  ·skip
   have hQ6:=(HP1.out.sub HBD.out)
   refine goes_ Try.func34 (by kernel_rfl) rfl #[.pointer (some ⟨ge 0,0,none⟩),.int .u32 bt,.agg #[.int .i64 p.kind,.int .u32 p.mine,.int .u32 p.boot,.int .u32 p.yours,.int .u32 p.seq,.int .u32 p.ack,.int .u32 p.stamp,.int .u32 p.echo,.complex .f64 p.zr p.zi,.slice Ab p.body.length cb]] (by rfl) rfl rfl (by (try simp only [List.map_toArray,List.map_cons,List.map_nil]); first | done | rfl) ?_
   have hc9:Calls Try.prog 34 #[.pointer (some ⟨ge 0,0,none⟩),.int .u32 bt,.agg #[.int .i64 p.kind,.int .u32 p.mine,.int .u32 p.boot,.int .u32 p.yours,.int .u32 p.seq,.int .u32 p.ack,.int .u32 p.stamp,.int .u32 p.echo,.complex .f64 p.zr p.zi,.slice Ab p.body.length cb]] w6 _:=take_end (hQ6.e 0 (by decide)) hQ6.hB OK.out bt p HBT.out HPG.out (cs:=cells p (.slice Ab p.body.length cb)) (okp:=own1 5) (pkt_M.2 ⟨_,rfl,Kd.R_kept HR3.out (Kept.of_below HBD.out (fun _ => False)) (fun _ _ hf => hf)⟩) (fun k hx hy => by have:=hQ6.disj 5 (1 + 0) k hx hy; omega)
   refine hc9.mono ?_
   clear hc9
   intro e w7 hT7
   have hT8:TookT w6 B (own1 (1 + 0)) (ge 0) (L',⟨hdb,false,false,body⟩) e w7:=by
    have hh:=HT.out
    rw [← hh]
    exact hT7
   clear hT7
   obtain ⟨v7,rfl,⟨A7,c7,hv7⟩,hD⟩:=DV.behind (cs:=#[.bool false,.bool false,.bool false,.slice none 0 0]) (s:=0) (by decide) hQ6 HG1.out (HK1.out.below HBD.out) (HB1.out.trans (HBD.out.mono HP1.out.hB)) (fun k hk => (HG1.out.2 _ k hk).elim (fun x => .inl (.inr (.inl x))) .inr) hT8
   have hv8:v7 = .slice A7 nb c7:=by rw [hv7]; exact congrArg (fun x => Value.slice A7 x c7) HNB.out
   subst hv8
   clear hv7
   have HD:=Lib.hid hD
   refine ⟨_,rfl,?_⟩
   have hS7:w7.heap[gp]? = some (.cells (prow ({ X with way:=X.way.eraseIdx i }:Pr) ge lv1 wv1) 143 (0,0)) ∧ w7.heap[w3.heap.size]? = some (.cells #[.int .i64 0,.int .u32 bt,.int .i64 p.kind,.int .u32 p.mine,.int .u32 p.boot,.int .u32 p.yours,.int .u32 p.seq,.int .u32 p.ack,.int .u32 p.stamp,.int .u32 p.echo,.complex .f64 p.zr p.zi,.slice Ab p.body.length cb] 150 (0,0)):=⟨blk_kept hHeld.1 (Took.turns hT8).2.1 (HP1.out.gp0 _),blk_kept hHeld.2 (Took.turns hT8).2.1 (fun hx => by have:=HP1.out.lt _ _ hx; omega)⟩
   clear hT8 hD hQ6 hHeld
   refine hK.out _ _ hS7 (fun hHeld => ?_)
   clear hK K hS7
   refine norm_ (a':=?_) ?_ ?_
   rotate_left
   ·show Act.put _ (some 28) _ = _
    simp only [Act.put,sA,sZ,sS]
    rfl
   refine pure_ (i:=9) (N:=some 19) (v:=?_) (a':=?_) M0b rfl rfl (by kernel_rfl) (fun _ _ _ h => h) (Or.inl ⟨by rfl,?_⟩) ?_ ?_
   rotate_left
   ·intro w'
    go_simp
    with_reducible rfl
   rotate_left
   ·simp only [Act.put,sA,sZ,sS]
    rfl
   refine pure_ (i:=10) (N:=some 29) (v:=?_) (a':=?_) M0c rfl rfl (by kernel_rfl) (fun _ _ _ h => h) (Or.inl ⟨by rfl,?_⟩) ?_ ?_
   rotate_left
   ·intro w'
    go_simp
    with_reducible rfl
   rotate_left
   ·simp only [Act.put,sA,sZ,sS]
    rfl
   refine pure_ (i:=11) (N:=some 30) (v:=?_) (a':=?_) M0d rfl rfl (by kernel_rfl) (fun _ _ _ h => h) (Or.inl ⟨by rfl,?_⟩) ?_ ?_
   rotate_left
   ·intro w'
    go_simp
    with_reducible rfl
   rotate_left
   ·simp only [Act.put,sA,sZ,sS]
    rfl
   refine one_ (i:=12) (N:=some 7) M00 rfl rfl (by kernel_rfl) (by decide) (fun K hK => ?_)
   refine box_step (by rfl) (N:=7) rfl (cs:=#[.bool false,.bool false,.bool false,.slice none 0 0]) (t:=56) (by first | (go_simp; done) | (go_simp; rfl)) ?_
   intro g7 hg7 w8 hbx hb8
   have hS8:w8.heap[gp]? = some (.cells (prow ({ X with way:=X.way.eraseIdx i }:Pr) ge lv1 wv1) 143 (0,0)) ∧ w8.heap[w3.heap.size]? = some (.cells #[.int .i64 0,.int .u32 bt,.int .i64 p.kind,.int .u32 p.mine,.int .u32 p.boot,.int .u32 p.yours,.int .u32 p.seq,.int .u32 p.ack,.int .u32 p.stamp,.int .u32 p.echo,.complex .f64 p.zr p.zi,.slice Ab p.body.length cb] 150 (0,0)):=⟨(hb8.block gp (blk_lt hHeld.1)).trans hHeld.1,(hb8.block _ (blk_lt hHeld.2)).trans hHeld.2⟩
   have HD8:=Lib.hid (HD.out w8 g7 hg7 hbx hb8)
   clear hbx hb8 HD hHeld hg7
   refine hK.out _ _ hS8 (fun hHeld => ?_)
   clear hK K hS8
   refine norm_ (a':=?_) ?_ ?_
   rotate_left
   ·show Act.put _ (some 7) _ = _
    simp only [Act.put,sA,sZ,sS]
    rfl
   have h9:=hcont (g7,A7,c7) _ HD8.out
   simp only [putAll,Act.put,sA,sZ,sS] at h9
   exact h9
  ·skip
   refine box_step (by rfl) (N:=7) rfl (cs:=#[.bool false,.bool false,.bool false,.slice none 0 0]) (t:=56) (by first | (go_simp; done) | (go_simp; rfl)) ?_
   intro g7 hg7 w8 hbx hb8
   have hS8:w8.heap[gp]? = some (.cells (prow ({ X with way:=X.way.eraseIdx i }:Pr) ge lv1 wv1) 143 (0,0)) ∧ w8.heap[w3.heap.size]? = some (.cells #[.int .i64 0,.int .u32 bt,.int .i64 p.kind,.int .u32 p.mine,.int .u32 p.boot,.int .u32 p.yours,.int .u32 p.seq,.int .u32 p.ack,.int .u32 p.stamp,.int .u32 p.echo,.complex .f64 p.zr p.zi,.slice Ab p.body.length cb] 150 (0,0)):=⟨(hb8.block gp (blk_lt hHeld.1)).trans hHeld.1,(hb8.block _ (blk_lt hHeld.2)).trans hHeld.2⟩
   have HQ8:=Lib.hid ((HP1.out.sub HBD.out).sub hb8)
   have hl6:=blk_lt (HP1.out.sub HBD.out).blk
   have hz6:=HBD.out.size
   have hz3:=HK1.out.1
   have HH8:=Lib.hid (show w8.heap[g7]? = some (.cells #[.bool false,.bool false,.bool false,.slice none 0 0] 56 (0,0)) ∧ (g7 ≠ gp ∧ ∀ i,¬ own1 i g7) ∧ w.heap.size ≤ g7 from ⟨hbx,⟨by omega,fun i hi => by have:=(HP1.out.sub HBD.out).lt i g7 hi; omega⟩,by omega⟩)
   have HB8:=Lib.hid hb8
   clear hbx hl6 hz6 hz3 hHeld hg7
   clear hb8
   refine hK.out _ _ hS8 (fun hHeld => ?_)
   clear hK K hS8
   refine norm_ (a':=?_) ?_ ?_
   rotate_left
   ·show Act.put _ (some 7) _ = _
    simp only [Act.put,sA,sZ,sS]
    rfl
   refine one_ (i:=8) (N:=some 28) M0B rfl rfl (by kernel_rfl) (by decide) (fun K hK => ?_)
   have hQ6:=HQ8.out
   refine goes_ Try.func34 (by kernel_rfl) rfl #[.pointer (some ⟨ge 0,0,none⟩),.int .u32 bt,.agg #[.int .i64 p.kind,.int .u32 p.mine,.int .u32 p.boot,.int .u32 p.yours,.int .u32 p.seq,.int .u32 p.ack,.int .u32 p.stamp,.int .u32 p.echo,.complex .f64 p.zr p.zi,.slice Ab p.body.length cb]] (by rfl) rfl rfl (by (try simp only [List.map_toArray,List.map_cons,List.map_nil]); first | done | rfl) ?_
   have hc9:Calls Try.prog 34 #[.pointer (some ⟨ge 0,0,none⟩),.int .u32 bt,.agg #[.int .i64 p.kind,.int .u32 p.mine,.int .u32 p.boot,.int .u32 p.yours,.int .u32 p.seq,.int .u32 p.ack,.int .u32 p.stamp,.int .u32 p.echo,.complex .f64 p.zr p.zi,.slice Ab p.body.length cb]] w8 _:=take_end (hQ6.e 0 (by decide)) hQ6.hB OK.out bt p HBT.out HPG.out (cs:=cells p (.slice Ab p.body.length cb)) (okp:=own1 5) (pkt_M.2 ⟨_,rfl,Kd.R_kept HR3.out (Kept.of_below (HBD.out.trans (HB8.out.mono HBD.out.size)) (fun _ => False)) (fun _ _ hf => hf)⟩) (fun k hx hy => by have:=hQ6.disj 5 (1 + 0) k hx hy; omega)
   refine hc9.mono ?_
   clear hc9
   intro e w7 hT7
   have hT8:TookT w8 B (own1 (1 + 0)) (ge 0) (L',⟨hdb,false,false,body⟩) e w7:=by
    have hh:=HT.out
    rw [← hh]
    exact hT7
   clear hT7
   obtain ⟨v7,rfl,⟨A7,c7,hv7⟩,hD⟩:=DV.ahead (s:=0) (by decide) hQ6 HG1.out (HK1.out.below (HBD.out.trans (HB8.out.mono HBD.out.size))) (HB1.out.trans ((HBD.out.trans (HB8.out.mono HBD.out.size)).mono HP1.out.hB)) (fun k hk => (HG1.out.2 _ k hk).elim (fun x => .inl (.inr (.inl x))) .inr) HH8.out.1 HH8.out.2.1 HH8.out.2.2 hT8
   have hv8:v7 = .slice A7 nb c7:=by rw [hv7]; exact congrArg (fun x => Value.slice A7 x c7) HNB.out
   subst hv8
   clear hv7
   have HD:=Lib.hid hD
   refine ⟨_,rfl,?_⟩
   have hS7:w7.heap[gp]? = some (.cells (prow ({ X with way:=X.way.eraseIdx i }:Pr) ge lv1 wv1) 143 (0,0)) ∧ w7.heap[w3.heap.size]? = some (.cells #[.int .i64 0,.int .u32 bt,.int .i64 p.kind,.int .u32 p.mine,.int .u32 p.boot,.int .u32 p.yours,.int .u32 p.seq,.int .u32 p.ack,.int .u32 p.stamp,.int .u32 p.echo,.complex .f64 p.zr p.zi,.slice Ab p.body.length cb] 150 (0,0)):=⟨blk_kept hHeld.1 (Took.turns hT8).2.1 (HP1.out.gp0 _),blk_kept hHeld.2 (Took.turns hT8).2.1 (fun hx => by have:=HP1.out.lt _ _ hx; omega)⟩
   clear hT8 hD hQ6 hHeld
   refine hK.out _ _ hS7 (fun hHeld => ?_)
   clear hK K hS7
   refine norm_ (a':=?_) ?_ ?_
   rotate_left
   ·show Act.put _ (some 28) _ = _
    simp only [Act.put,sA,sZ,sS]
    rfl
   refine pure_ (i:=9) (N:=some 19) (v:=?_) (a':=?_) M0C rfl rfl (by kernel_rfl) (fun _ _ _ h => h) (Or.inl ⟨by rfl,?_⟩) ?_ ?_
   rotate_left
   ·intro w'
    go_simp
    with_reducible rfl
   rotate_left
   ·simp only [Act.put,sA,sZ,sS]
    rfl
   refine pure_ (i:=10) (N:=some 29) (v:=?_) (a':=?_) M0D rfl rfl (by kernel_rfl) (fun _ _ _ h => h) (Or.inl ⟨by rfl,?_⟩) ?_ ?_
   rotate_left
   ·intro w'
    go_simp
    with_reducible rfl
   rotate_left
   ·simp only [Act.put,sA,sZ,sS]
    rfl
   refine pure_ (i:=11) (N:=some 30) (v:=?_) (a':=?_) M00 rfl rfl (by kernel_rfl) (fun _ _ _ h => h) (Or.inl ⟨by rfl,?_⟩) ?_ ?_
   rotate_left
   ·intro w'
    go_simp
    with_reducible rfl
   rotate_left
   ·simp only [Act.put,sA,sZ,sS]
    rfl
   have h9:=hcont (g7,A7,c7) _ HD.out
   simp only [putAll,Act.put,sA,sZ,sS] at h9
   exact h9
 intro s9 w9 hF
 obtain ⟨g7,A7,c7⟩:=s9
 obtain ⟨own2,lv2,wv2,okb,hD⟩:=hF
 have HD:=Lib.hid hD
 clear hD
 refine norm_ (a':=?_) ?_ ?_
 rotate_left
 ·show putAll _ _ = _
  simp only [putAll,Act.put,sA,sZ,sS]
  rfl
 have hc0:w9.cell? ⟨g7,0,none⟩ = some (.bool false):=(blk_cell HD.out.t7 0).trans rfl
 have hf0:=blk_frozen HD.out.t7 0
 have hc1:w9.cell? ⟨g7,1,none⟩ = some (.bool false):=(blk_cell HD.out.t7 1).trans rfl
 have hf1:=blk_frozen HD.out.t7 1
 have hc2:w9.cell? ⟨g7,2,none⟩ = some (.bool false):=(blk_cell HD.out.t7 2).trans rfl
 have hf2:=blk_frozen HD.out.t7 2
 have hc3:w9.cell? ⟨g7,3,none⟩ = some (.slice none 0 0):=(blk_cell HD.out.t7 3).trans rfl
 have hf3:=blk_frozen HD.out.t7 3
 refine last_ (i:=13) (N:=none) M0e rfl rfl (by kernel_rfl) (by decide) (fun K hK => ?_)
 refine skip_F (fun wz => wz.heap[g7]? = some (.cells #[.bool hdb,.bool false,.bool false,.slice A7 nb c7] 56 (0,0)) ∧ Steps.At g7 w9 wz) (by rfl) rfl ⟨_,by go_simp; rfl,?_,?_⟩ (fun w10 hF => ?_)
 ·skip
  have hb1:=blk_put HD.out.t7 0 (.bool hdb) (cs':=#[.bool hdb,.bool false,.bool false,.slice none 0 0]) rfl
  have hb2:=blk_put hb1 1 (.bool false) (cs':=#[.bool hdb,.bool false,.bool false,.slice none 0 0]) rfl
  have hb3:=blk_put hb2 2 (.bool false) (cs':=#[.bool hdb,.bool false,.bool false,.slice none 0 0]) rfl
  have hb4:=blk_put hb3 3 (.slice A7 nb c7) (cs':=#[.bool hdb,.bool false,.bool false,.slice A7 nb c7]) rfl
  exact hb4
 ·repeat (first | (with_reducible exact Steps.At.refl _ _) | refine Steps.At.set ?_ _ _)
 have HD10:=Lib.hid (HD.out.write H.out.hB hF.1 hF.2)
 clear hF HD hc0 hf0 hc1 hf1 hc2 hf2 hc3 hf3
 refine hK.out _ _ ?_
 clear hK K
 refine pure_ (i:=14) (N:=some 8) (v:=?_) (a':=?_) M0f rfl rfl (by kernel_rfl) (fun _ _ _ h => h) (Or.inl ⟨by rfl,?_⟩) ?_ ?_
 rotate_left
 ·intro w'
  go_simp
  with_reducible rfl
 rotate_left
 ·simp only [Act.put,sA,sZ,sS]
  rfl
 refine done_ (by kernel_rfl) ?_
 have ht1:w10.cell? ⟨g7,1,none⟩ = some (.bool false):=(blk_cell HD10.out.t7 1).trans rfl
 have ht2:w10.cell? ⟨g7,2,none⟩ = some (.bool false):=(blk_cell HD10.out.t7 2).trans rfl
 have ht3:w10.cell? ⟨g7,3,none⟩ = some (.slice A7 nb c7):=(blk_cell HD10.out.t7 3).trans rfl
 have hpos:=HPOS.out
 have hpz:(0:Int) < (nb:Int):=by omega
 go_wp2_with (go_at_call 127; (have hc9:=note_0 HD10.out.at_ 4 body A7 c7 (by have hR:=HD10.out.row; rw [← HNB.out] at hR; exact (Kd.R_reads' hR).2.2) (by rw [HNB.out]; exact HBLN.out) (by rw [Pr.set_eq]; exact HLL.out)); (rw [HNB.out] at hc9); (with_reducible refine hc9.mono ?_); clear hc9; rintro e w12 ⟨rfl,hM⟩; (have HM:=Lib.hid hM); clear hM)
 all_goals (go_ret; refine ⟨rfl,?_⟩)
 have hM:=HM.out
 rw [Pr.set_set,Pr.set_eq] at hM
 exact Moves.then_ HD10.out.kept HD10.out.below HD10.out.grew hM (fun k hk => hk.elim (fun x => .inl (.inl x)) (fun x => (HD10.out.grew.2 _ k x).elim (fun y => .inl (.inr (.inr y))) .inr))
set_option maxRecDepth 100000 in
set_option maxHeartbeats 4000000 in
theorem deliver_g_1 {w:World} {B gp:Nat} {ge:Nat → Nat} {own:Nat → Nat → Prop} {X:Pr} {lv:Nat → Value} {wv:Value} (h:PAt w B gp ge own X lv wv) (i:Nat) (hi:i < X.way.length) (hlw:X.way.length ≤ 1024) (bt:Int) (p:Pkt) (hf:X.way.getD i nilF = ⟨1,bt,p⟩) (hbt:0 < bt ∧ bt < 4294967296) (hp:p.Good) (hok:(X.sd 1).end_.Ok) (hll:(X.sd 1).log.length ≤ 1000000) (kind side:Int) (vb:Value) (L':Lk) (hdb:Bool) (body:List Int) (hbl:body.length ≤ 1000000) (hpos:0 < body.length) (hT:takeF (X.sd 1).end_ bt p = (L',⟨hdb,false,false,body⟩)) :
  Calls Try.prog 112 #[.pointer (some ⟨gp,0,none⟩),.agg #[.int .i64 kind,.int .i64 side,.int .i64 (i:Int),vb]] w fun e w' => e = .returned (.int .i64 0) ∧ Moves w B gp ge own (({ X with way:=X.way.eraseIdx i }:Pr).set 1 (noteF (endF (X.sd 1) L') 4 body)) (fun k => k = gp ∨ own 2 k ∨ own 4 k) w':=by
 have hba:Below w.heap.size w (w.alloc (.cells #[.int .i64 kind,.int .i64 side,.int .i64 (i:Int),vb] 72)):=(Below.refl _ _).alloc (Nat.le_refl _) _
 have hc2:(w.alloc (.cells #[.int .i64 kind,.int .i64 side,.int .i64 (i:Int),vb] 72)).cell? ⟨w.heap.size,2,none⟩ = some (.int .i64 (i:Int)):=(blk_cell (heap_alloc_new w _) 2).trans rfl
 have HX1:=Lib.hid (h.sub hba)
 have HBA:=Lib.hid hba
 have H:=Lib.hid h
 have HI:=Lib.hid hi
 have HL:=Lib.hid hlw
 have HFF:=Lib.hid hf
 have HBT:=Lib.hid hbt
 have HPG:=Lib.hid hp
 have OK:=Lib.hid hok
 have HLL:=Lib.hid hll
 have HT:=Lib.hid hT
 clear h hba hi hlw hf hbt hp hok hll hT
 have HBLN:=Lib.hid hbl
 have HPOS:=Lib.hid hpos
 clear hbl hpos
 generalize hnb:body.length = nb at *
 have HNB:=Lib.hid hnb
 clear hnb
 go_enter Try.func112,Try.ntmps112
 go_wp2_with (first | (go_at_call 128; (have hc:=out_p HX1.out i HI.out HL.out); rw [HFF.out] at hc; (with_reducible refine hc.mono ?_); clear hc; rintro e w3 ⟨b3,rfl,hR3,hM3⟩; (obtain ⟨Ab,cb,hb3⟩:=Kd.R_slice hR3); (subst hb3); (obtain ⟨own1,lv1,wv1,hP1,hg1,hk1,hb1⟩:=hM3); (have HP1:=Lib.hid hP1); (have HG1:=Lib.hid ((Grew.refl w own).trans HBA.out.size hg1)); (have HK1:=Lib.hid (show Kept w w3 (fun k => k = gp ∨ own 2 k ∨ own 4 k) from (Kept.of_below HBA.out _).then_ hk1 (fun k hk => .inl (.inl hk)))); (have HB1:=Lib.hid ((HBA.out.mono H.out.hB).trans hb1)); (have HR3:=Lib.hid (Kd.R_mono hR3 (fun k hk => hg1.1 5 k hk))); (have HZ3:=Lib.hid (heap_alloc_new w3 (.cells #[.int .i64 0,.int .u32 0,.int .i64 0,.int .u32 0,.int .u32 0,.int .u32 0,.int .u32 0,.int .u32 0,.int .u32 0,.int .u32 0,.complex .f64 0 0,.slice none 0 0] 150))); (have HZB:=Lib.hid (show Below w3.heap.size w3 (w3.alloc (.cells #[.int .i64 0,.int .u32 0,.int .i64 0,.int .u32 0,.int .u32 0,.int .u32 0,.int .u32 0,.int .u32 0,.int .u32 0,.int .u32 0,.complex .f64 0 0,.slice none 0 0] 150)) from (Below.refl _ _).alloc (Nat.le_refl _) _)); (clear hP1 hg1 hk1 hb1 hR3)) | ((with_reducible refine gate_ (.store 150 (.tmp 5) (.tmp 12)) rfl ?_); (refine store_row_F rfl rfl 150 (.tmp 5) (.tmp 12) rfl w3.heap.size #[.int .i64 1,.int .u32 bt,.int .i64 p.kind,.int .u32 p.mine,.int .u32 p.boot,.int .u32 p.yours,.int .u32 p.seq,.int .u32 p.ack,.int .u32 p.stamp,.int .u32 p.echo,.complex .f64 p.zr p.zi,.slice Ab p.body.length cb] rfl rfl 150 _ HZ3.out (by kernel_rfl) rfl (by kernel_rfl) ?_); (intro w4 hb4 hat4); (have HB4:=Lib.hid hb4); (have HBL:=Lib.hid (hat4.below HZB.out (Nat.le_refl _))); (have hd0:w4.cell? ⟨w3.heap.size,0,none⟩ = some (.int .i64 1):=(blk_cell HB4.out 0).trans rfl); (clear hb4 hat4)))
 go_quiet (fail)
 rename Nat => nq1
 go_wp2_with fail
 have hbd:=bl_drew (bl_drewN HBL.out nq1)
 have hSS:(w4.drewN nq1).drew.heap[gp]? = some (.cells (prow ({ X with way:=X.way.eraseIdx i }:Pr) ge lv1 wv1) 143 (0,0)) ∧ (w4.drewN nq1).drew.heap[w3.heap.size]? = some (.cells #[.int .i64 1,.int .u32 bt,.int .i64 p.kind,.int .u32 p.mine,.int .u32 p.boot,.int .u32 p.yours,.int .u32 p.seq,.int .u32 p.ack,.int .u32 p.stamp,.int .u32 p.echo,.complex .f64 p.zr p.zi,.slice Ab p.body.length cb] 150 (0,0)):=⟨(HP1.out.sub hbd).blk,HB4.out⟩
 clear HB4 HBL HZ3 HZB hd0
 refine start_ (n:=15) (S:=fun w' => w'.heap[gp]? = some (.cells (prow ({ X with way:=X.way.eraseIdx i }:Pr) ge lv1 wv1) 143 (0,0)) ∧ w'.heap[w3.heap.size]? = some (.cells #[.int .i64 1,.int .u32 bt,.int .i64 p.kind,.int .u32 p.mine,.int .u32 p.boot,.int .u32 p.yours,.int .u32 p.seq,.int .u32 p.ack,.int .u32 p.stamp,.int .u32 p.echo,.complex .f64 p.zr p.zi,.slice Ab p.body.length cb] 150 (0,0))) (ds:=[13]) M01 (by kernel_rfl) rfl rfl (hSS) (fun hHeld => ?_)
 generalize (w4.drewN nq1).drew = w6 at hbd hHeld ⊢
 have HBD:=Lib.hid hbd
 clear hbd
 refine pure_ (i:=0) (N:=some 20) (v:=?_) (a':=?_) M02 rfl rfl (by kernel_rfl) (fun _ _ _ h => h) (Or.inl ⟨by rfl,?_⟩) ?_ ?_
 rotate_left
 ·intro w'
  go_simp
  with_reducible rfl
 rotate_left
 ·simp only [Act.put,sA,sZ,sS]
  rfl
 refine pure_ (i:=1) (N:=some 21) (v:=?_) (a':=?_) M03 rfl rfl (by kernel_rfl) (fun _ _ _ h => h) (Or.inl ⟨by rfl,?_⟩) ?_ ?_
 rotate_left
 ·intro w'
  go_simp
  with_reducible rfl
 rotate_left
 ·simp only [Act.put,sA,sZ,sS]
  rfl
 refine pure_ (i:=2) (N:=some 22) (v:=?_) (a':=?_) M04 rfl rfl (by kernel_rfl) (fun _ _ _ h => h) (Or.inl ⟨by rfl,?_⟩) ?_ ?_
 rotate_left
 ·intro w'
  go_simp
  rfl
 rotate_left
 ·simp only [Act.put,sA,sZ,sS]
  rfl
 refine take_ (i:=3) (N:=some 23) (v:=?_) (a':=?_) M05 rfl rfl (by kernel_rfl) (fun _ _ _ h => h) (Or.inl ⟨by rfl,?_⟩) hHeld ?_ ?_
 rotate_left
 ·intro w' s0
  have hc2:w'.cell? ⟨gp,9,none⟩ = some (.pointer (some ⟨ge 1,0,none⟩)):=(blk_cell s0.1 9).trans rfl
  clear s0
  go_simp
  rfl
 rotate_left
 ·simp only [Act.put,sA,sZ,sS]
  rfl
 refine pure_ (i:=4) (N:=some 24) (v:=?_) (a':=?_) M06 rfl rfl (by kernel_rfl) (fun _ _ _ h => h) (Or.inl ⟨by rfl,?_⟩) ?_ ?_
 rotate_left
 ·intro w'
  go_simp
  with_reducible rfl
 rotate_left
 ·simp only [Act.put,sA,sZ,sS]
  rfl
 refine take_ (i:=5) (N:=some 25) (v:=?_) (a':=?_) M07 rfl rfl (by kernel_rfl) (fun _ _ _ h => h) (Or.inl ⟨by rfl,?_⟩) hHeld ?_ ?_
 rotate_left
 ·intro w' s0
  have hc3:w'.cell? ⟨w3.heap.size,1,none⟩ = some (.int .u32 bt):=(blk_cell s0.2 1).trans rfl
  clear s0
  go_simp
  with_reducible rfl
 rotate_left
 ·simp only [Act.put,sA,sZ,sS]
  rfl
 refine pure_ (i:=6) (N:=some 26) (v:=?_) (a':=?_) M08 rfl rfl (by kernel_rfl) (fun _ _ _ h => h) (Or.inl ⟨by rfl,?_⟩) ?_ ?_
 rotate_left
 ·intro w'
  go_simp
  with_reducible rfl
 rotate_left
 ·simp only [Act.put,sA,sZ,sS]
  rfl
 refine take_ (i:=7) (N:=some 27) (v:=?_) (a':=?_) M09 rfl rfl (by kernel_rfl) (fun _ _ _ h => h) (Or.inl ⟨by rfl,?_⟩) hHeld ?_ ?_
 rotate_left
 ·intro w' s0
  have hu27:=Try.underlying27
  have hd2:w'.cell? ⟨w3.heap.size,2,none⟩ = some (.int .i64 p.kind):=(blk_cell s0.2 2).trans rfl
  have hd3:w'.cell? ⟨w3.heap.size,3,none⟩ = some (.int .u32 p.mine):=(blk_cell s0.2 3).trans rfl
  have hd4:w'.cell? ⟨w3.heap.size,4,none⟩ = some (.int .u32 p.boot):=(blk_cell s0.2 4).trans rfl
  have hd5:w'.cell? ⟨w3.heap.size,5,none⟩ = some (.int .u32 p.yours):=(blk_cell s0.2 5).trans rfl
  have hd6:w'.cell? ⟨w3.heap.size,6,none⟩ = some (.int .u32 p.seq):=(blk_cell s0.2 6).trans rfl
  have hd7:w'.cell? ⟨w3.heap.size,7,none⟩ = some (.int .u32 p.ack):=(blk_cell s0.2 7).trans rfl
  have hd8:w'.cell? ⟨w3.heap.size,8,none⟩ = some (.int .u32 p.stamp):=(blk_cell s0.2 8).trans rfl
  have hd9:w'.cell? ⟨w3.heap.size,9,none⟩ = some (.int .u32 p.echo):=(blk_cell s0.2 9).trans rfl
  have hd10:w'.cell? ⟨w3.heap.size,10,none⟩ = some (.complex .f64 p.zr p.zi):=(blk_cell s0.2 10).trans rfl
  have hd11:w'.cell? ⟨w3.heap.size,11,none⟩ = some (.slice Ab p.body.length cb):=(blk_cell s0.2 11).trans rfl
  clear s0
  go_simp
  try rfl
 rotate_left
 ·simp only [Act.put,sA,sZ,sS]
  rfl
 refine join_ (σ:=Nat × Option Addr × Nat) 2 M00 (fun s => [(28,.tuple #[.agg #[.bool hdb,.bool false,.bool false,.slice s.2.1 nb s.2.2],.int .i64 0]),(19,.tuple #[.agg #[.bool hdb,.bool false,.bool false,.slice s.2.1 nb s.2.2],.int .i64 0]),(29,.agg #[.bool hdb,.bool false,.bool false,.slice s.2.1 nb s.2.2]),(30,.int .i64 0),(7,.pointer (some ⟨s.1,0,none⟩))]) (fun s w' => DVE w B gp ge own (({ X with way:=X.way.eraseIdx i }:Pr).set 1 (endF (X.sd 1) L')) (fun k => k = gp ∨ own 2 k ∨ own 4 k) s.1 (.slice s.2.1 nb s.2.2) body #[.bool false,.bool false,.bool false,.slice none 0 0] w') ?_ ?_
 rotate_left
 ·intro hcont
  refine two_ (i:=8) (j:=12) (Ni:=some 28) (Nj:=some 7) M0a M0A rfl rfl rfl rfl (by kernel_rfl) (by decide) (by decide) (fun K hK => ?_) (fun K hK => ?_)
  ·skip
   have hQ6:=(HP1.out.sub HBD.out)
   refine goes_ Try.func34 (by kernel_rfl) rfl #[.pointer (some ⟨ge 1,0,none⟩),.int .u32 bt,.agg #[.int .i64 p.kind,.int .u32 p.mine,.int .u32 p.boot,.int .u32 p.yours,.int .u32 p.seq,.int .u32 p.ack,.int .u32 p.stamp,.int .u32 p.echo,.complex .f64 p.zr p.zi,.slice Ab p.body.length cb]] (by rfl) rfl rfl (by (try simp only [List.map_toArray,List.map_cons,List.map_nil]); first | done | rfl) ?_
   have hc9:Calls Try.prog 34 #[.pointer (some ⟨ge 1,0,none⟩),.int .u32 bt,.agg #[.int .i64 p.kind,.int .u32 p.mine,.int .u32 p.boot,.int .u32 p.yours,.int .u32 p.seq,.int .u32 p.ack,.int .u32 p.stamp,.int .u32 p.echo,.complex .f64 p.zr p.zi,.slice Ab p.body.length cb]] w6 _:=take_end (hQ6.e 1 (by decide)) hQ6.hB OK.out bt p HBT.out HPG.out (cs:=cells p (.slice Ab p.body.length cb)) (okp:=own1 5) (pkt_M.2 ⟨_,rfl,Kd.R_kept HR3.out (Kept.of_below HBD.out (fun _ => False)) (fun _ _ hf => hf)⟩) (fun k hx hy => by have:=hQ6.disj 5 (1 + 1) k hx hy; omega)
   refine hc9.mono ?_
   clear hc9
   intro e w7 hT7
   have hT8:TookT w6 B (own1 (1 + 1)) (ge 1) (L',⟨hdb,false,false,body⟩) e w7:=by
    have hh:=HT.out
    rw [← hh]
    exact hT7
   clear hT7
   obtain ⟨v7,rfl,⟨A7,c7,hv7⟩,hD⟩:=DV.behind (cs:=#[.bool false,.bool false,.bool false,.slice none 0 0]) (s:=1) (by decide) hQ6 HG1.out (HK1.out.below HBD.out) (HB1.out.trans (HBD.out.mono HP1.out.hB)) (fun k hk => (HG1.out.2 _ k hk).elim (fun x => .inl (.inr (.inl x))) .inr) hT8
   have hv8:v7 = .slice A7 nb c7:=by rw [hv7]; exact congrArg (fun x => Value.slice A7 x c7) HNB.out
   subst hv8
   clear hv7
   have HD:=Lib.hid hD
   refine ⟨_,rfl,?_⟩
   have hS7:w7.heap[gp]? = some (.cells (prow ({ X with way:=X.way.eraseIdx i }:Pr) ge lv1 wv1) 143 (0,0)) ∧ w7.heap[w3.heap.size]? = some (.cells #[.int .i64 1,.int .u32 bt,.int .i64 p.kind,.int .u32 p.mine,.int .u32 p.boot,.int .u32 p.yours,.int .u32 p.seq,.int .u32 p.ack,.int .u32 p.stamp,.int .u32 p.echo,.complex .f64 p.zr p.zi,.slice Ab p.body.length cb] 150 (0,0)):=⟨blk_kept hHeld.1 (Took.turns hT8).2.1 (HP1.out.gp0 _),blk_kept hHeld.2 (Took.turns hT8).2.1 (fun hx => by have:=HP1.out.lt _ _ hx; omega)⟩
   clear hT8 hD hQ6 hHeld
   refine hK.out _ _ hS7 (fun hHeld => ?_)
   clear hK K hS7
   refine norm_ (a':=?_) ?_ ?_
   rotate_left
   ·show Act.put _ (some 28) _ = _
    simp only [Act.put,sA,sZ,sS]
    rfl
   refine pure_ (i:=9) (N:=some 19) (v:=?_) (a':=?_) M0b rfl rfl (by kernel_rfl) (fun _ _ _ h => h) (Or.inl ⟨by rfl,?_⟩) ?_ ?_
   rotate_left
   ·intro w'
    go_simp
    with_reducible rfl
   rotate_left
   ·simp only [Act.put,sA,sZ,sS]
    rfl
   refine pure_ (i:=10) (N:=some 29) (v:=?_) (a':=?_) M0c rfl rfl (by kernel_rfl) (fun _ _ _ h => h) (Or.inl ⟨by rfl,?_⟩) ?_ ?_
   rotate_left
   ·intro w'
    go_simp
    with_reducible rfl
   rotate_left
   ·simp only [Act.put,sA,sZ,sS]
    rfl
   refine pure_ (i:=11) (N:=some 30) (v:=?_) (a':=?_) M0d rfl rfl (by kernel_rfl) (fun _ _ _ h => h) (Or.inl ⟨by rfl,?_⟩) ?_ ?_
   rotate_left
   ·intro w'
    go_simp
    with_reducible rfl
   rotate_left
   ·simp only [Act.put,sA,sZ,sS]
    rfl
   refine one_ (i:=12) (N:=some 7) M00 rfl rfl (by kernel_rfl) (by decide) (fun K hK => ?_)
   refine box_step (by rfl) (N:=7) rfl (cs:=#[.bool false,.bool false,.bool false,.slice none 0 0]) (t:=56) (by first | (go_simp; done) | (go_simp; rfl)) ?_
   intro g7 hg7 w8 hbx hb8
   have hS8:w8.heap[gp]? = some (.cells (prow ({ X with way:=X.way.eraseIdx i }:Pr) ge lv1 wv1) 143 (0,0)) ∧ w8.heap[w3.heap.size]? = some (.cells #[.int .i64 1,.int .u32 bt,.int .i64 p.kind,.int .u32 p.mine,.int .u32 p.boot,.int .u32 p.yours,.int .u32 p.seq,.int .u32 p.ack,.int .u32 p.stamp,.int .u32 p.echo,.complex .f64 p.zr p.zi,.slice Ab p.body.length cb] 150 (0,0)):=⟨(hb8.block gp (blk_lt hHeld.1)).trans hHeld.1,(hb8.block _ (blk_lt hHeld.2)).trans hHeld.2⟩
   have HD8:=Lib.hid (HD.out w8 g7 hg7 hbx hb8)
   clear hbx hb8 HD hHeld hg7
   refine hK.out _ _ hS8 (fun hHeld => ?_)
   clear hK K hS8
   refine norm_ (a':=?_) ?_ ?_
   rotate_left
   ·show Act.put _ (some 7) _ = _
    simp only [Act.put,sA,sZ,sS]
    rfl
   have h9:=hcont (g7,A7,c7) _ HD8.out
   simp only [putAll,Act.put,sA,sZ,sS] at h9
   exact h9
  ·skip
   refine box_step (by rfl) (N:=7) rfl (cs:=#[.bool false,.bool false,.bool false,.slice none 0 0]) (t:=56) (by first | (go_simp; done) | (go_simp; rfl)) ?_
   intro g7 hg7 w8 hbx hb8
   have hS8:w8.heap[gp]? = some (.cells (prow ({ X with way:=X.way.eraseIdx i }:Pr) ge lv1 wv1) 143 (0,0)) ∧ w8.heap[w3.heap.size]? = some (.cells #[.int .i64 1,.int .u32 bt,.int .i64 p.kind,.int .u32 p.mine,.int .u32 p.boot,.int .u32 p.yours,.int .u32 p.seq,.int .u32 p.ack,.int .u32 p.stamp,.int .u32 p.echo,.complex .f64 p.zr p.zi,.slice Ab p.body.length cb] 150 (0,0)):=⟨(hb8.block gp (blk_lt hHeld.1)).trans hHeld.1,(hb8.block _ (blk_lt hHeld.2)).trans hHeld.2⟩
   have HQ8:=Lib.hid ((HP1.out.sub HBD.out).sub hb8)
   have hl6:=blk_lt (HP1.out.sub HBD.out).blk
   have hz6:=HBD.out.size
   have hz3:=HK1.out.1
   have HH8:=Lib.hid (show w8.heap[g7]? = some (.cells #[.bool false,.bool false,.bool false,.slice none 0 0] 56 (0,0)) ∧ (g7 ≠ gp ∧ ∀ i,¬ own1 i g7) ∧ w.heap.size ≤ g7 from ⟨hbx,⟨by omega,fun i hi => by have:=(HP1.out.sub HBD.out).lt i g7 hi; omega⟩,by omega⟩)
   have HB8:=Lib.hid hb8
   clear hbx hl6 hz6 hz3 hHeld hg7
   clear hb8
   refine hK.out _ _ hS8 (fun hHeld => ?_)
   clear hK K hS8
   refine norm_ (a':=?_) ?_ ?_
   rotate_left
   ·show Act.put _ (some 7) _ = _
    simp only [Act.put,sA,sZ,sS]
    rfl
   refine one_ (i:=8) (N:=some 28) M0B rfl rfl (by kernel_rfl) (by decide) (fun K hK => ?_)
   have hQ6:=HQ8.out
   refine goes_ Try.func34 (by kernel_rfl) rfl #[.pointer (some ⟨ge 1,0,none⟩),.int .u32 bt,.agg #[.int .i64 p.kind,.int .u32 p.mine,.int .u32 p.boot,.int .u32 p.yours,.int .u32 p.seq,.int .u32 p.ack,.int .u32 p.stamp,.int .u32 p.echo,.complex .f64 p.zr p.zi,.slice Ab p.body.length cb]] (by rfl) rfl rfl (by (try simp only [List.map_toArray,List.map_cons,List.map_nil]); first | done | rfl) ?_
   have hc9:Calls Try.prog 34 #[.pointer (some ⟨ge 1,0,none⟩),.int .u32 bt,.agg #[.int .i64 p.kind,.int .u32 p.mine,.int .u32 p.boot,.int .u32 p.yours,.int .u32 p.seq,.int .u32 p.ack,.int .u32 p.stamp,.int .u32 p.echo,.complex .f64 p.zr p.zi,.slice Ab p.body.length cb]] w8 _:=take_end (hQ6.e 1 (by decide)) hQ6.hB OK.out bt p HBT.out HPG.out (cs:=cells p (.slice Ab p.body.length cb)) (okp:=own1 5) (pkt_M.2 ⟨_,rfl,Kd.R_kept HR3.out (Kept.of_below (HBD.out.trans (HB8.out.mono HBD.out.size)) (fun _ => False)) (fun _ _ hf => hf)⟩) (fun k hx hy => by have:=hQ6.disj 5 (1 + 1) k hx hy; omega)
   refine hc9.mono ?_
   clear hc9
   intro e w7 hT7
   have hT8:TookT w8 B (own1 (1 + 1)) (ge 1) (L',⟨hdb,false,false,body⟩) e w7:=by
    have hh:=HT.out
    rw [← hh]
    exact hT7
   clear hT7
   obtain ⟨v7,rfl,⟨A7,c7,hv7⟩,hD⟩:=DV.ahead (s:=1) (by decide) hQ6 HG1.out (HK1.out.below (HBD.out.trans (HB8.out.mono HBD.out.size))) (HB1.out.trans ((HBD.out.trans (HB8.out.mono HBD.out.size)).mono HP1.out.hB)) (fun k hk => (HG1.out.2 _ k hk).elim (fun x => .inl (.inr (.inl x))) .inr) HH8.out.1 HH8.out.2.1 HH8.out.2.2 hT8
   have hv8:v7 = .slice A7 nb c7:=by rw [hv7]; exact congrArg (fun x => Value.slice A7 x c7) HNB.out
   subst hv8
   clear hv7
   have HD:=Lib.hid hD
   refine ⟨_,rfl,?_⟩
   have hS7:w7.heap[gp]? = some (.cells (prow ({ X with way:=X.way.eraseIdx i }:Pr) ge lv1 wv1) 143 (0,0)) ∧ w7.heap[w3.heap.size]? = some (.cells #[.int .i64 1,.int .u32 bt,.int .i64 p.kind,.int .u32 p.mine,.int .u32 p.boot,.int .u32 p.yours,.int .u32 p.seq,.int .u32 p.ack,.int .u32 p.stamp,.int .u32 p.echo,.complex .f64 p.zr p.zi,.slice Ab p.body.length cb] 150 (0,0)):=⟨blk_kept hHeld.1 (Took.turns hT8).2.1 (HP1.out.gp0 _),blk_kept hHeld.2 (Took.turns hT8).2.1 (fun hx => by have:=HP1.out.lt _ _ hx; omega)⟩
   clear hT8 hD hQ6 hHeld
   refine hK.out _ _ hS7 (fun hHeld => ?_)
   clear hK K hS7
   refine norm_ (a':=?_) ?_ ?_
   rotate_left
   ·show Act.put _ (some 28) _ = _
    simp only [Act.put,sA,sZ,sS]
    rfl
   refine pure_ (i:=9) (N:=some 19) (v:=?_) (a':=?_) M0C rfl rfl (by kernel_rfl) (fun _ _ _ h => h) (Or.inl ⟨by rfl,?_⟩) ?_ ?_
   rotate_left
   ·intro w'
    go_simp
    with_reducible rfl
   rotate_left
   ·simp only [Act.put,sA,sZ,sS]
    rfl
   refine pure_ (i:=10) (N:=some 29) (v:=?_) (a':=?_) M0D rfl rfl (by kernel_rfl) (fun _ _ _ h => h) (Or.inl ⟨by rfl,?_⟩) ?_ ?_
   rotate_left
   ·intro w'
    go_simp
    with_reducible rfl
   rotate_left
   ·simp only [Act.put,sA,sZ,sS]
    rfl
   refine pure_ (i:=11) (N:=some 30) (v:=?_) (a':=?_) M00 rfl rfl (by kernel_rfl) (fun _ _ _ h => h) (Or.inl ⟨by rfl,?_⟩) ?_ ?_
   rotate_left
   ·intro w'
    go_simp
    with_reducible rfl
   rotate_left
   ·simp only [Act.put,sA,sZ,sS]
    rfl
   have h9:=hcont (g7,A7,c7) _ HD.out
   simp only [putAll,Act.put,sA,sZ,sS] at h9
   exact h9
 intro s9 w9 hF
 obtain ⟨g7,A7,c7⟩:=s9
 obtain ⟨own2,lv2,wv2,okb,hD⟩:=hF
 have HD:=Lib.hid hD
 clear hD
 refine norm_ (a':=?_) ?_ ?_
 rotate_left
 ·show putAll _ _ = _
  simp only [putAll,Act.put,sA,sZ,sS]
  rfl
 have hc0:w9.cell? ⟨g7,0,none⟩ = some (.bool false):=(blk_cell HD.out.t7 0).trans rfl
 have hf0:=blk_frozen HD.out.t7 0
 have hc1:w9.cell? ⟨g7,1,none⟩ = some (.bool false):=(blk_cell HD.out.t7 1).trans rfl
 have hf1:=blk_frozen HD.out.t7 1
 have hc2:w9.cell? ⟨g7,2,none⟩ = some (.bool false):=(blk_cell HD.out.t7 2).trans rfl
 have hf2:=blk_frozen HD.out.t7 2
 have hc3:w9.cell? ⟨g7,3,none⟩ = some (.slice none 0 0):=(blk_cell HD.out.t7 3).trans rfl
 have hf3:=blk_frozen HD.out.t7 3
 refine last_ (i:=13) (N:=none) M0e rfl rfl (by kernel_rfl) (by decide) (fun K hK => ?_)
 refine skip_F (fun wz => wz.heap[g7]? = some (.cells #[.bool hdb,.bool false,.bool false,.slice A7 nb c7] 56 (0,0)) ∧ Steps.At g7 w9 wz) (by rfl) rfl ⟨_,by go_simp; rfl,?_,?_⟩ (fun w10 hF => ?_)
 ·skip
  have hb1:=blk_put HD.out.t7 0 (.bool hdb) (cs':=#[.bool hdb,.bool false,.bool false,.slice none 0 0]) rfl
  have hb2:=blk_put hb1 1 (.bool false) (cs':=#[.bool hdb,.bool false,.bool false,.slice none 0 0]) rfl
  have hb3:=blk_put hb2 2 (.bool false) (cs':=#[.bool hdb,.bool false,.bool false,.slice none 0 0]) rfl
  have hb4:=blk_put hb3 3 (.slice A7 nb c7) (cs':=#[.bool hdb,.bool false,.bool false,.slice A7 nb c7]) rfl
  exact hb4
 ·repeat (first | (with_reducible exact Steps.At.refl _ _) | refine Steps.At.set ?_ _ _)
 have HD10:=Lib.hid (HD.out.write H.out.hB hF.1 hF.2)
 clear hF HD hc0 hf0 hc1 hf1 hc2 hf2 hc3 hf3
 refine hK.out _ _ ?_
 clear hK K
 refine pure_ (i:=14) (N:=some 8) (v:=?_) (a':=?_) M0f rfl rfl (by kernel_rfl) (fun _ _ _ h => h) (Or.inl ⟨by rfl,?_⟩) ?_ ?_
 rotate_left
 ·intro w'
  go_simp
  with_reducible rfl
 rotate_left
 ·simp only [Act.put,sA,sZ,sS]
  rfl
 refine done_ (by kernel_rfl) ?_
 have ht1:w10.cell? ⟨g7,1,none⟩ = some (.bool false):=(blk_cell HD10.out.t7 1).trans rfl
 have ht2:w10.cell? ⟨g7,2,none⟩ = some (.bool false):=(blk_cell HD10.out.t7 2).trans rfl
 have ht3:w10.cell? ⟨g7,3,none⟩ = some (.slice A7 nb c7):=(blk_cell HD10.out.t7 3).trans rfl
 have hpos:=HPOS.out
 have hpz:(0:Int) < (nb:Int):=by omega
 go_wp2_with (go_at_call 127; (have hc9:=note_1 HD10.out.at_ 4 body A7 c7 (by have hR:=HD10.out.row; rw [← HNB.out] at hR; exact (Kd.R_reads' hR).2.2) (by rw [HNB.out]; exact HBLN.out) (by rw [Pr.set_eq]; exact HLL.out)); (rw [HNB.out] at hc9); (with_reducible refine hc9.mono ?_); clear hc9; rintro e w12 ⟨rfl,hM⟩; (have HM:=Lib.hid hM); clear hM)
 all_goals (go_ret; refine ⟨rfl,?_⟩)
 have hM:=HM.out
 rw [Pr.set_set,Pr.set_eq] at hM
 exact Moves.then_ HD10.out.kept HD10.out.below HD10.out.grew hM (fun k hk => hk.elim (fun x => .inl (.inl x)) (fun x => (HD10.out.grew.2 _ k x).elim (fun y => .inl (.inr (.inr y))) .inr))
end Go.Proofs.Ytnkkgofpifhoeaa.Pr
end
section
namespace Go.Proofs.Ytnkkgofpifhoeaa.Pr
open Go.RowKit Go.Proofs.Ytnkkgofpifhoeaa.Base Go.Proofs.Ytnkkgofpifhoeaa.Steps Go.Proofs.YtnkkgofpifhoeaaW.PrintWords Go.Proofs.YtnkkgofpifhoeaaW.PrintLast
theorem key_int (k:Int):MapKept.IsKey (.int .i64) (.int .i64 k):=by simp [MapKept.IsKey]
def putF (es:Array MapEntry) (clk:Nat) (k:Int) (v:Value):Array MapEntry:=es.push { key:=.int .i64 k,val:=v,born:=clk }
def foundF (es:Array MapEntry) (k:Int):Option (Option (Nat × Value)):=Instr.findNow (.int .i64) (.int .i64 k) es.toList 0
theorem put146 {w:World} {r clk:Nat} {es:Array MapEntry} (hb:w.heap[r]? = some (.map es clk)) (k:Int) (v:Value) (h:foundF es k = some none) :
  ∃ w1,(Instr.mapUpdate 146 (.map (some r)) (.int .i64 k) v).run Try.prog w = .ok () w1 ∧ w1.heap[r]? = some (.map (putF es clk k v) (clk + 1)) ∧ At r w w1:=by
 unfold foundF at h
 refine ⟨{ w with heap:=w.heap.setIfInBounds r (.map (putF es clk k v) (clk + 1)) },?_,?_,?_⟩
 ·simp [Instr.mapUpdate,run_underlying Try.underlying146,MapKept.run_getObj_map hb,MapKept.run_checkKey Try.underlying3 (key_int k),MapKept.run_findKey Try.underlying3 h,MapKept.run_setObj_map _ hb,Result.andThen,putF]
 ·have:=blk_lt hb
  simp [Array.getElem?_setIfInBounds,this]
 ·refine ⟨rfl,rfl,rfl,by simp,fun i hi => ?_⟩
  have:r ≠ i:=fun e => hi e.symm
  simp [Array.getElem?_setIfInBounds,this]
theorem look146 {w:World} {r clk:Nat} {es:Array MapEntry} (hb:w.heap[r]? = some (.map es clk)) (k:Int) (i:Nat) (v:Value) (h:foundF es k = some (some (i,v))) :
  (Instr.lookup 146 (.map (some r)) (.int .i64 k) true).run Try.prog w = .ok (.tuple #[v,.bool true]) w:=by
 unfold foundF at h
 simp [Instr.lookup,run_underlying Try.underlying146,MapKept.run_getObj_map hb,MapKept.run_checkKey Try.underlying3 (key_int k),MapKept.run_findKey Try.underlying3 h,Result.andThen]
def actsE0:Array MapEntry:=#[]
def actsE1:Array MapEntry:=putF actsE0 0 1 (.func (.func 107) #[] #[])
def actsE2:Array MapEntry:=putF actsE1 1 2 (.func (.func 108) #[] #[])
def actsE3:Array MapEntry:=putF actsE2 2 3 (.func (.func 109) #[] #[])
def actsE4:Array MapEntry:=putF actsE3 3 4 (.func (.func 110) #[] #[])
def actsE5:Array MapEntry:=putF actsE4 4 5 (.func (.func 111) #[] #[])
def actsE6:Array MapEntry:=putF actsE5 5 6 (.func (.func 112) #[] #[])
def actsE7:Array MapEntry:=putF actsE6 6 7 (.func (.func 113) #[] #[])
def actsE8:Array MapEntry:=putF actsE7 7 8 (.func (.func 114) #[] #[])
set_option maxRecDepth 100000 in
set_option maxHeartbeats 2000000 in
theorem acts_of (w:World):Calls Try.prog 82 #[] w fun e w' => e = .returned (.map (some w.heap.size)) ∧ w'.heap[w.heap.size]? = some (.map actsE8 8) ∧ Below w.heap.size w w':=by
 have hmm:=run_makeMap (P:=Try.prog) 146 w
 have HM0:=Lib.hid (show (w.alloc (.map #[] 0)).heap[w.heap.size]? = some (.map actsE0 0) from heap_alloc_new w _)
 have HB0:=Lib.hid (show Below w.heap.size w (w.alloc (.map #[] 0)) from (Below.refl _ _).alloc (Nat.le_refl _) _)
 go_enter Try.func82,Try.ntmps82
 go_wp2_with (first | ((with_reducible refine gate_ (.insert 146 (.tmp 1) (.const (.int .i64 1)) (.func 107)) rfl ?_); (obtain ⟨wi,hrun,hm,hat⟩:=put146 HM0.out 1 (.func (.func 107) #[] #[]) (by rfl)); (refine store_F (fun wz => wz.heap[w.heap.size]? = some (.map actsE1 1) ∧ Below w.heap.size w wz) rfl rfl ⟨wi,(by first | (go_simp; done) | (go_simp; rfl) | (simp [execOp,hrun]; done)),hm,hat.below HB0.out (Nat.le_refl _)⟩ (fun w1 hF => ?_)); (clear hrun hm hat); (have HM1:=Lib.hid hF.1); (have HB1:=Lib.hid hF.2); (clear hF)) | ((with_reducible refine gate_ (.insert 146 (.tmp 1) (.const (.int .i64 2)) (.func 108)) rfl ?_); (obtain ⟨wi,hrun,hm,hat⟩:=put146 HM1.out 2 (.func (.func 108) #[] #[]) (by rfl)); (refine store_F (fun wz => wz.heap[w.heap.size]? = some (.map actsE2 2) ∧ Below w.heap.size w wz) rfl rfl ⟨wi,(by first | (go_simp; done) | (go_simp; rfl) | (simp [execOp,hrun]; done)),hm,hat.below HB1.out (Nat.le_refl _)⟩ (fun w2 hF => ?_)); (clear hrun hm hat); (have HM2:=Lib.hid hF.1); (have HB2:=Lib.hid hF.2); (clear hF)) | ((with_reducible refine gate_ (.insert 146 (.tmp 1) (.const (.int .i64 3)) (.func 109)) rfl ?_); (obtain ⟨wi,hrun,hm,hat⟩:=put146 HM2.out 3 (.func (.func 109) #[] #[]) (by rfl)); (refine store_F (fun wz => wz.heap[w.heap.size]? = some (.map actsE3 3) ∧ Below w.heap.size w wz) rfl rfl ⟨wi,(by first | (go_simp; done) | (go_simp; rfl) | (simp [execOp,hrun]; done)),hm,hat.below HB2.out (Nat.le_refl _)⟩ (fun w3 hF => ?_)); (clear hrun hm hat); (have HM3:=Lib.hid hF.1); (have HB3:=Lib.hid hF.2); (clear hF)) | ((with_reducible refine gate_ (.insert 146 (.tmp 1) (.const (.int .i64 4)) (.func 110)) rfl ?_); (obtain ⟨wi,hrun,hm,hat⟩:=put146 HM3.out 4 (.func (.func 110) #[] #[]) (by rfl)); (refine store_F (fun wz => wz.heap[w.heap.size]? = some (.map actsE4 4) ∧ Below w.heap.size w wz) rfl rfl ⟨wi,(by first | (go_simp; done) | (go_simp; rfl) | (simp [execOp,hrun]; done)),hm,hat.below HB3.out (Nat.le_refl _)⟩ (fun w4 hF => ?_)); (clear hrun hm hat); (have HM4:=Lib.hid hF.1); (have HB4:=Lib.hid hF.2); (clear hF)) | ((with_reducible refine gate_ (.insert 146 (.tmp 1) (.const (.int .i64 5)) (.func 111)) rfl ?_); (obtain ⟨wi,hrun,hm,hat⟩:=put146 HM4.out 5 (.func (.func 111) #[] #[]) (by rfl)); (refine store_F (fun wz => wz.heap[w.heap.size]? = some (.map actsE5 5) ∧ Below w.heap.size w wz) rfl rfl ⟨wi,(by first | (go_simp; done) | (go_simp; rfl) | (simp [execOp,hrun]; done)),hm,hat.below HB4.out (Nat.le_refl _)⟩ (fun w5 hF => ?_)); (clear hrun hm hat); (have HM5:=Lib.hid hF.1); (have HB5:=Lib.hid hF.2); (clear hF)) | ((with_reducible refine gate_ (.insert 146 (.tmp 1) (.const (.int .i64 6)) (.func 112)) rfl ?_); (obtain ⟨wi,hrun,hm,hat⟩:=put146 HM5.out 6 (.func (.func 112) #[] #[]) (by rfl)); (refine store_F (fun wz => wz.heap[w.heap.size]? = some (.map actsE6 6) ∧ Below w.heap.size w wz) rfl rfl ⟨wi,(by first | (go_simp; done) | (go_simp; rfl) | (simp [execOp,hrun]; done)),hm,hat.below HB5.out (Nat.le_refl _)⟩ (fun w6 hF => ?_)); (clear hrun hm hat); (have HM6:=Lib.hid hF.1); (have HB6:=Lib.hid hF.2); (clear hF)) | ((with_reducible refine gate_ (.insert 146 (.tmp 1) (.const (.int .i64 7)) (.func 113)) rfl ?_); (obtain ⟨wi,hrun,hm,hat⟩:=put146 HM6.out 7 (.func (.func 113) #[] #[]) (by rfl)); (refine store_F (fun wz => wz.heap[w.heap.size]? = some (.map actsE7 7) ∧ Below w.heap.size w wz) rfl rfl ⟨wi,(by first | (go_simp; done) | (go_simp; rfl) | (simp [execOp,hrun]; done)),hm,hat.below HB6.out (Nat.le_refl _)⟩ (fun w7 hF => ?_)); (clear hrun hm hat); (have HM7:=Lib.hid hF.1); (have HB7:=Lib.hid hF.2); (clear hF)) | ((with_reducible refine gate_ (.insert 146 (.tmp 1) (.const (.int .i64 8)) (.func 114)) rfl ?_); (obtain ⟨wi,hrun,hm,hat⟩:=put146 HM7.out 8 (.func (.func 114) #[] #[]) (by rfl)); (refine store_F (fun wz => wz.heap[w.heap.size]? = some (.map actsE8 8) ∧ Below w.heap.size w wz) rfl rfl ⟨wi,(by first | (go_simp; done) | (go_simp; rfl) | (simp [execOp,hrun]; done)),hm,hat.below HB7.out (Nat.le_refl _)⟩ (fun w8 hF => ?_)); (clear hrun hm hat); (have HM8:=Lib.hid hF.1); (have HB8:=Lib.hid hF.2); (clear hF)))
 all_goals (go_ret; exact ⟨rfl,HM8.out,HB8.out⟩)
theorem look_1 {w:World} {r:Nat} (hb:w.heap[r]? = some (.map actsE8 8)):(Instr.lookup 146 (.map (some r)) (.int .i64 1) true).run Try.prog w = .ok (.tuple #[.func (.func 107) #[] #[],.bool true]) w:=look146 hb 1 0 (.func (.func 107) #[] #[]) (by rfl)
theorem look_2 {w:World} {r:Nat} (hb:w.heap[r]? = some (.map actsE8 8)):(Instr.lookup 146 (.map (some r)) (.int .i64 2) true).run Try.prog w = .ok (.tuple #[.func (.func 108) #[] #[],.bool true]) w:=look146 hb 2 1 (.func (.func 108) #[] #[]) (by rfl)
theorem look_3 {w:World} {r:Nat} (hb:w.heap[r]? = some (.map actsE8 8)):(Instr.lookup 146 (.map (some r)) (.int .i64 3) true).run Try.prog w = .ok (.tuple #[.func (.func 109) #[] #[],.bool true]) w:=look146 hb 3 2 (.func (.func 109) #[] #[]) (by rfl)
theorem look_4 {w:World} {r:Nat} (hb:w.heap[r]? = some (.map actsE8 8)):(Instr.lookup 146 (.map (some r)) (.int .i64 4) true).run Try.prog w = .ok (.tuple #[.func (.func 110) #[] #[],.bool true]) w:=look146 hb 4 3 (.func (.func 110) #[] #[]) (by rfl)
theorem look_5 {w:World} {r:Nat} (hb:w.heap[r]? = some (.map actsE8 8)):(Instr.lookup 146 (.map (some r)) (.int .i64 5) true).run Try.prog w = .ok (.tuple #[.func (.func 111) #[] #[],.bool true]) w:=look146 hb 5 4 (.func (.func 111) #[] #[]) (by rfl)
theorem look_6 {w:World} {r:Nat} (hb:w.heap[r]? = some (.map actsE8 8)):(Instr.lookup 146 (.map (some r)) (.int .i64 6) true).run Try.prog w = .ok (.tuple #[.func (.func 112) #[] #[],.bool true]) w:=look146 hb 6 5 (.func (.func 112) #[] #[]) (by rfl)
theorem look_7 {w:World} {r:Nat} (hb:w.heap[r]? = some (.map actsE8 8)):(Instr.lookup 146 (.map (some r)) (.int .i64 7) true).run Try.prog w = .ok (.tuple #[.func (.func 113) #[] #[],.bool true]) w:=look146 hb 7 6 (.func (.func 113) #[] #[]) (by rfl)
theorem look_8 {w:World} {r:Nat} (hb:w.heap[r]? = some (.map actsE8 8)):(Instr.lookup 146 (.map (some r)) (.int .i64 8) true).run Try.prog w = .ok (.tuple #[.func (.func 114) #[] #[],.bool true]) w:=look146 hb 8 7 (.func (.func 114) #[] #[]) (by rfl)
end Go.Proofs.Ytnkkgofpifhoeaa.Pr
end
section
namespace Go.Proofs.Ytnkkgofpifhoeaa.Pr
open Go.RowKit Go.Proofs.Ytnkkgofpifhoeaa.Base Go.Proofs.Ytnkkgofpifhoeaa.Steps Go.Proofs.Ytnkkgofpifhoeaa.Lk Go.Proofs.Ytnkkgofpifhoeaa.Win Go.Proofs.YtnkkgofpifhoeaaW.PrintWords Go.Proofs.YtnkkgofpifhoeaaW.PrintLast
theorem PL.put {w wr w1:World} {B gp s j:Nat} {U okx:Nat → Prop} {X Yi:Pr} {b b0:Int} {o:Value} {ps:List Pkt} {ge:Nat → Nat} {own:Nat → Nat → Prop} {lv:Nat → Value} {wv:Value} {p:Pkt} {A2:Option Addr} {c2:Nat} (d:Int) (hd:d = 1 - (s:Int)) (hj:j < ps.length) (hY:Yi = putsX X s b (ps.take j)) (hp:p = ps.getD j nilP) (hb0:b0 = b)
  (hP:PAt wr B gp ge own Yi lv wv) (hU:∀ i k,own i k → newer U w k) (hx:∀ k,okx k → own 5 k) (hR:pkt.R 27 wr B okx o ps) (hk:Kept w wr (fun k => k = gp ∨ U k)) (hb:Below B w wr) (h1:Below wr.heap.size wr w1) (hYw:Yi.way.length ≤ 1024) (hRB:(Kd.int .u8).R 5 wr B okx (.slice A2 p.body.length c2) p.body) :
  Calls Try.prog 83 #[.pointer (some ⟨gp,0,none⟩),.agg #[.int .i64 d,.int .u32 b0,.int .i64 p.kind,.int .u32 p.mine,.int .u32 p.boot,.int .u32 p.yours,.int .u32 p.seq,.int .u32 p.ack,.int .u32 p.stamp,.int .u32 p.echo,.complex .f64 p.zr p.zi,.slice A2 p.body.length c2]] w1 fun e w' => e = .returned (.tuple #[]) ∧ PL w B gp U X s b o ps (j + 1) w':=by
 subst hd hY hb0
 refine (put_of (hP.sub h1) ⟨1 - (s:Int),b0,p⟩ (.slice A2 p.body.length c2) (fly_M.2 ⟨_,rfl,Kd.R_mono (Kd.R_below hRB h1) hx⟩) hYw).mono fun e w' hq => ⟨hq.1,?_⟩
 have hM:=hq.2
 rw [hp] at hM
 exact PL.step hj hP hU hx hR hk hb h1 hM
set_option maxRecDepth 100000 in
set_option maxHeartbeats 4000000 in
theorem do_a0 {w : World} {B gp : Nat} {ge : Nat → Nat} {own : Nat → Nat → Prop} {X Y : Pr} {lv : Nat → Value} {wv : Value} {U : Nat → Prop} (h : PAt w B gp ge own X lv wv) (kind : Int) (i : Int) (hg1 : kind < 6) (Ab : Option Addr) (nb cb : Nat) (fn : FuncId) (f : Func) (hfn : Try.prog.funcs[fn]? = some f) (hnm : (f.name == "runtime.NumGoroutine") = false) (hbs : f.body.isSome = true) (E : Int)
  (hlook:∀ (W:World) (r:Nat),W.heap[r]? = some (.map actsE8 8) → (Instr.lookup 146 (.map (some r)) (.int .i64 kind) true).run Try.prog W = .ok (.tuple #[.func (.func fn) #[] #[],.bool true]) W)
  (hcall:∀ w':World,Below w.heap.size w w' → Calls Try.prog fn #[.pointer (some ⟨gp,0,none⟩),.agg #[.int .i64 kind,.int .i64 0,.int .i64 i,.slice Ab nb cb]] w' fun e w'' => e = .returned (.int .i64 E) ∧ WTurn w' B gp U Y w'')
  (hoy:∀ s,s < 2 → (Y.sd s).end_.Ok) (hwy:Y.way.length ≤ 1024) :
  Calls Try.prog 41 #[.pointer (some ⟨gp,0,none⟩),.agg #[.int .i64 kind,.int .i64 0,.int .i64 i,.slice Ab nb cb]] w fun e w' => e = .returned (.int .i64 E) ∧ WTurn w B gp U (pumpX (pumpX Y 0) 1) w':=by
 have hba:Below w.heap.size w (w.alloc (.cells #[.int .i64 kind,.int .i64 0,.int .i64 i,.slice Ab nb cb] 72)):=(Below.refl _ _).alloc (Nat.le_refl _) _
 have hSS:(w.alloc (.cells #[.int .i64 kind,.int .i64 0,.int .i64 i,.slice Ab nb cb] 72)).drew.heap[w.heap.size]? = some (.cells #[.int .i64 kind,.int .i64 0,.int .i64 i,.slice Ab nb cb] 72 (0,0)):=heap_alloc_new w _
 obtain ⟨Aw,cw,_,hwv,_⟩:=h.way.reads
 subst hwv
 have HSS:=Lib.hid hSS
 have HBD0:=Lib.hid (bl_drew hba)
 have H:=Lib.hid h
 have HFN:=Lib.hid hfn
 have HNM:=Lib.hid hnm
 have HBS:=Lib.hid hbs
 have HLOOK:=Lib.hid hlook
 have HCALL:=Lib.hid hcall
 have HOY0:=Lib.hid (hoy 0 (by decide)).out
 have hoy1:(pumpX Y 0).sd 1 = Y.sd 1:=by show (putsX _ _ _ _).sd 1 = _; rw [putsX_sd]; rfl
 have HOY1:Hid (((pumpX Y 0).sd 1).end_.out.length ≤ _):=Lib.hid (by rw [hoy1]; exact (hoy 1 (by decide)).out)
 have HWY0:=Lib.hid hwy
 have HWY1:Hid ((pumpX Y 0).way.length ≤ 1024):=Lib.hid (putsX_way _ _ _ _ hwy)
 clear h hba hSS hfn hnm hbs hlook hcall hoy hoy1 hwy
 go_enter Try.func41,Try.ntmps41
 go_wp2_with fail
 have hSS:=HSS.out
 have hbd:=HBD0.out
 clear HSS HBD0
 refine start_ (n:=9) (S:=fun w' => w'.heap[w.heap.size]? = some (.cells #[.int .i64 kind,.int .i64 0,.int .i64 i,.slice Ab nb cb] 72 (0,0))) (ds:=[]) M0L (by kernel_rfl) rfl rfl (hSS) (fun hHeld => ?_)
 generalize (w.alloc (.cells #[.int .i64 kind,.int .i64 0,.int .i64 i,.slice Ab nb cb] 72)).drew = w2 at hbd hHeld ⊢
 have HBD:=Lib.hid hbd
 clear hbd
 refine pure_ (i:=1) (N:=some 15) (v:=?_) (a':=?_) M17 rfl rfl (by kernel_rfl) (fun _ _ _ h => h) (Or.inl ⟨by rfl,?_⟩) ?_ ?_
 rotate_left
 ·intro w'
  go_simp
  with_reducible rfl
 rotate_left
 ·simp only [Act.put,sA,sZ,sS]
  rfl
 refine take_ (i:=2) (N:=some 16) (v:=?_) (a':=?_) M18 rfl rfl (by kernel_rfl) (fun _ _ _ h => h) (Or.inl ⟨by rfl,?_⟩) hHeld ?_ ?_
 rotate_left
 ·intro w' s0
  have hc0:w'.cell? ⟨w.heap.size,0,none⟩ = some (.int .i64 kind):=(blk_cell s0 0).trans rfl
  clear s0
  go_simp
  with_reducible rfl
 rotate_left
 ·simp only [Act.put,sA,sZ,sS]
  rfl
 refine one_ (i:=0) (N:=some 14) M0Q rfl rfl (by kernel_rfl) (by decide) (fun K hK => ?_)
 refine goes_ Try.func82 (by kernel_rfl) rfl #[] (by rfl) rfl rfl (by (try simp only [List.map_toArray,List.map_cons,List.map_nil]); first | done | rfl) ?_
 refine (acts_of w2).mono ?_
 rintro e w3 ⟨rfl,hmap,hb3⟩
 refine ⟨_,rfl,?_⟩
 have hS3:w3.heap[w.heap.size]? = some (.cells #[.int .i64 kind,.int .i64 0,.int .i64 i,.slice Ab nb cb] 72 (0,0)):=(hb3.block _ (blk_lt hHeld)).trans hHeld
 have HMAP:=Lib.hid hmap
 have HB3:=Lib.hid (HBD.out.trans (hb3.mono HBD.out.size))
 have HS3:=Lib.hid hS3
 generalize w2.heap.size = gm at *
 clear hmap hb3 hHeld
 refine hK.out _ _ hS3 (fun hHeld => ?_)
 clear hK K hS3
 refine norm_ (a':=?_) ?_ ?_
 rotate_left
 ·show Act.put _ (some 14) _ = _
  simp only [Act.put,sA,sZ,sS]
  rfl
 refine one_ (i:=3) (N:=some 17) M0S rfl rfl (by kernel_rfl) (by decide) (fun K hK => ?_)
 have hlk:=HLOOK.out w3 gm HMAP.out
 refine value_ (v:=.tuple #[.func (.func fn) #[] #[],.bool true]) (by rfl) rfl (w1:=w3) (by first | (go_simp; done) | (go_simp; rfl)) ?_
 clear hlk
 refine hK.out _ _ hHeld (fun hHeld => ?_)
 clear hK K
 refine norm_ (a':=?_) ?_ ?_
 rotate_left
 ·show Act.put _ (some 17) _ = _
  simp only [Act.put,sA,sZ,sS]
  rfl
 refine pure_ (i:=4) (N:=some 13) (v:=?_) (a':=?_) M0V rfl rfl (by kernel_rfl) (fun _ _ _ h => h) (Or.inl ⟨by rfl,?_⟩) ?_ ?_
 rotate_left
 ·intro w'
  go_simp
  with_reducible rfl
 rotate_left
 ·simp only [Act.put,sA,sZ,sS]
  rfl
 refine pure_ (i:=5) (N:=some 18) (v:=?_) (a':=?_) M0X rfl rfl (by kernel_rfl) (fun _ _ _ h => h) (Or.inl ⟨by rfl,?_⟩) ?_ ?_
 rotate_left
 ·intro w'
  go_simp
  with_reducible rfl
 rotate_left
 ·simp only [Act.put,sA,sZ,sS]
  rfl
 refine pure_ (i:=6) (N:=some 19) (v:=?_) (a':=?_) M10 rfl rfl (by kernel_rfl) (fun _ _ _ h => h) (Or.inl ⟨by rfl,?_⟩) ?_ ?_
 rotate_left
 ·intro w'
  go_simp
  with_reducible rfl
 rotate_left
 ·simp only [Act.put,sA,sZ,sS]
  rfl
 refine pure_ (i:=7) (N:=some 5) (v:=?_) (a':=?_) M11 rfl rfl (by kernel_rfl) (fun _ _ _ h => h) (Or.inl ⟨by rfl,?_⟩) ?_ ?_
 rotate_left
 ·intro w'
  go_simp
  with_reducible rfl
 rotate_left
 ·simp only [Act.put,sA,sZ,sS]
  rfl
 refine pure_ (i:=8) (N:=some 6) (v:=?_) (a':=?_) M12 rfl rfl (by kernel_rfl) (fun _ _ _ h => h) (Or.inl ⟨by rfl,?_⟩) ?_ ?_
 rotate_left
 ·intro w'
  go_simp
  with_reducible rfl
 rotate_left
 ·simp only [Act.put,sA,sZ,sS]
  rfl
 refine done_ (by kernel_rfl) ?_
 clear hHeld
 have hk0:w3.cell? ⟨w.heap.size,0,none⟩ = some (.int .i64 kind):=(blk_cell HS3.out 0).trans rfl
 have hk1:w3.cell? ⟨w.heap.size,1,none⟩ = some (.int .i64 0):=(blk_cell HS3.out 1).trans rfl
 have hk2:w3.cell? ⟨w.heap.size,2,none⟩ = some (.int .i64 i):=(blk_cell HS3.out 2).trans rfl
 have hk3:w3.cell? ⟨w.heap.size,3,none⟩ = some (.slice Ab nb cb):=(blk_cell HS3.out 3).trans rfl
 have hw18:w3.cell? ⟨gp,18,none⟩ = some (.slice Aw X.way.length cw):=(blk_cell (H.out.sub HB3.out).blk 18).trans rfl
 have hg6:decide (kind < 6) = true:=by simp [hg1]
 have hg7:decide (kind ≥ 6) = false:=by simp; omega
 go_wp2_with fail
 go_quiet (fail)
 rename Nat => nq1
 have hu72:=Try.underlying72
 go_wp2_with (rw [enters_ HFN.out HNM.out HBS.out,Oper.upon_enter]; (refine (HCALL.out (w3.drewN nq1) (bl_drewN HB3.out nq1)).mono ?_); (rintro e w6 ⟨rfl,hT⟩); (have HW6:=Lib.hid (WTurn.from_ H.out.hB (bl_drewN HB3.out nq1) hT)); (clear hT))
 refine wp_loop_rounds 3 ?_
 obtain ⟨⟨ge0,own0,lv0,wv0,hP,hU⟩,hk,hb⟩:=HW6.out
 have hce0:w6.cell? ⟨gp,0,none⟩ = some (.pointer (some ⟨ge0 0,0,none⟩)):=(blk_cell hP.blk 0).trans rfl
 have HP0:=Lib.hid hP
 have HU0:=Lib.hid hU
 have HK0:=Lib.hid hk
 have HB0:=Lib.hid hb
 clear hP hU hk hb
 rw [rounds_succ]
 go_wp2_with (go_at_call 32; (have hc:=out_fine' (HP0.out.e 0 (by decide))); (with_reducible refine hc.mono ?_); clear hc; rintro e wo0 ⟨o1,okx,own',rfl,hE,ho,hR,hx,hkp,hz,hb,hg⟩; (obtain ⟨A10,c10,ho1⟩:=Kd.R_slice hR); subst ho1; (have HL0:=Lib.hid (PL.start (s:=0) (by decide) HP0.out HU0.out HK0.out HB0.out hE ho hR hx hkp hz hb hg)); (clear hE ho hR hx hkp hz hb hg))
 have hnb0:=HOY0.out
 generalize hnl0:(Y.sd 0).end_.out.length = n0 at *
 have HN0:=Lib.hid hnl0
 clear hnl0 hce0
 go_loopg [72] n0 (fun m v wr => ∃ i:Nat,m = n0 - i ∧ i ≤ n0 ∧ v = .int .i64 (i:Int) ∧ PL w B gp U (Y.set 0 { Y.sd 0 with end_:=outL (Y.sd 0).end_ }) 0 (Y.sd 0).boot (.slice A10 n0 c10) (Y.sd 0).end_.out i wr)
 case atStart => exact ⟨0,rfl,Nat.zero_le _,rfl,HL0.out⟩
 case round =>
  obtain ⟨i,hm,hin,rfl,hF⟩:=hrel
  have HM0:=Lib.hid hm
  have HIN0:=Lib.hid hin
  have HF0:=Lib.hid hF
  clear hm hin hF
  by_cases hlt:(i:Int) < (n0:Int)
  ·have hd:decide ((i:Int) < (n0:Int)) = true:=by simp [hlt]
   have hsz:=HF0.out.size
   have HSZ:=Lib.hid hsz
   clear hsz
   obtain ⟨ge,own,lv,wv,okx,hP,hU,hx,hR,hk,hb⟩:=HF0.out
   obtain ⟨gx,cs,hA1,hM,hrg,hcl,hnp⟩:=pkt_elem hR i (by omega)
   subst hA1
   obtain ⟨b2,hb2,hRB⟩:=pkt_M.1 hM
   subst hb2
   obtain ⟨A2,c2,hb3⟩:=Kd.R_slice hRB
   subst hb3
   obtain ⟨Yi,hYi⟩:∃ Yi,Yi = putsX (Y.set 0 { Y.sd 0 with end_:=outL (Y.sd 0).end_ }) ((0:Nat):Int) (Y.sd 0).boot ((Y.sd 0).end_.out.take i):=⟨_,rfl⟩
   rw [← hYi] at hP
   obtain ⟨b0,hb0⟩:∃ b0,b0 = (Y.sd 0).boot:=⟨_,rfl⟩
   have hYb:(Yi.sd 0).boot = b0:=by rw [hYi,putsX_sd,hb0]; rfl
   have hYw:Yi.way.length ≤ 1024:=by rw [hYi]; exact putsX_way _ _ _ _ HWY0.out
   obtain ⟨p,hp⟩:∃ p,p = (Y.sd 0).end_.out.getD i nilP:=⟨_,rfl⟩
   rw [← hp] at hRB hrg hcl hM
   have HP0x:=Lib.hid hP
   have HU0x:=Lib.hid hU
   have HX0x:=Lib.hid hx
   have HR0x:=Lib.hid hR
   have HK0x:=Lib.hid hk
   have HB0x:=Lib.hid hb
   have HRB0x:=Lib.hid hRB
   have HRG0x:=Lib.hid hrg
   have HYI0x:=Lib.hid hYi
   have HB00x:=Lib.hid hb0
   have HYB0x:=Lib.hid hYb
   have HYW0x:=Lib.hid hYw
   have HPP0x:=Lib.hid hp
   have HLT0x:=Lib.hid hlt
   clear hP hU hx hR hk hb hRB hrg hcl hM hYi hb0 hYb hYw hp hnp hlt
   have hlt:i < n0:=by have:=HLT0x.out; omega
   have HZ0:=Lib.hid (heap_alloc_new wr (.cells #[.int .i64 0,.int .u32 0,.int .u32 0,.int .u32 0,.int .u32 0,.int .u32 0,.int .u32 0,.int .u32 0,.complex .f64 0 0,.slice none 0 0] 27))
   go_wp2_with (first | ((with_reducible refine gate_dst (N:=75) rfl ?_); (refine wpList_load_mid rfl 27 (.tmp 74) rfl gx (i * 10) (by first | rfl | (simp; done)) (cells p (.slice A2 p.body.length c2)) _ HRG0x.out Try.underlying27 rfl (by kernel_rfl) ?_)) | ((with_reducible refine gate_ (.store 27 (.tmp 10) (.tmp 75)) rfl ?_); (refine store_row_F rfl rfl 27 (.tmp 10) (.tmp 75) rfl wr.heap.size #[.int .i64 p.kind,.int .u32 p.mine,.int .u32 p.boot,.int .u32 p.yours,.int .u32 p.seq,.int .u32 p.ack,.int .u32 p.stamp,.int .u32 p.echo,.complex .f64 p.zr p.zi,.slice A2 p.body.length c2] rfl rfl 27 _ HZ0.out (by kernel_rfl) rfl (by kernel_rfl) ?_); (intro w8 hb8 hat8); (have HB8:=Lib.hid hb8); (have HBL8:=Lib.hid (hat8.below ((Below.refl wr.heap.size wr).alloc (Nat.le_refl _) _) (Nat.le_refl _))); (clear hb8 hat8)))
   have hbd:=bl_drew HBL8.out
   have hSS:w8.drew.heap[gp]? = some (.cells (prow Yi ge lv wv) 143 (0,0)) ∧ w8.drew.heap[wr.heap.size]? = some (.cells #[.int .i64 p.kind,.int .u32 p.mine,.int .u32 p.boot,.int .u32 p.yours,.int .u32 p.seq,.int .u32 p.ack,.int .u32 p.stamp,.int .u32 p.echo,.complex .f64 p.zr p.zi,.slice A2 p.body.length c2] 27 (0,0)):=⟨(HP0x.out.sub hbd).blk,HB8.out⟩
   clear HB8 HBL8
   refine start_ (n:=13) (S:=fun w' => w'.heap[gp]? = some (.cells (prow Yi ge lv wv) 143 (0,0)) ∧ w'.heap[wr.heap.size]? = some (.cells #[.int .i64 p.kind,.int .u32 p.mine,.int .u32 p.boot,.int .u32 p.yours,.int .u32 p.seq,.int .u32 p.ack,.int .u32 p.stamp,.int .u32 p.echo,.complex .f64 p.zr p.zi,.slice A2 p.body.length c2] 27 (0,0))) (ds:=[12]) M0E (by kernel_rfl) rfl rfl (hSS) (fun hHeld => ?_)
   generalize w8.drew = w9 at hbd hHeld ⊢
   have HBD:=Lib.hid hbd
   clear hbd
   refine pure_ (i:=0) (N:=some 76) (v:=?_) (a':=?_) M0F rfl rfl (by kernel_rfl) (fun _ _ _ h => h) (Or.inl ⟨by rfl,?_⟩) ?_ ?_
   rotate_left
   ·intro w'
    go_simp
    with_reducible rfl
   rotate_left
   ·simp only [Act.put,sA,sZ,sS]
    rfl
   refine pure_ (i:=1) (N:=some 77) (v:=?_) (a':=?_) M0G rfl rfl (by kernel_rfl) (fun _ _ _ h => h) (Or.inl ⟨by rfl,?_⟩) ?_ ?_
   rotate_left
   ·intro w'
    go_simp
    with_reducible rfl
   rotate_left
   ·simp only [Act.put,sA,sZ,sS]
    rfl
   refine pure_ (i:=2) (N:=some 78) (v:=?_) (a':=?_) M0H rfl rfl (by kernel_rfl) (fun _ _ _ h => h) (Or.inl ⟨by rfl,?_⟩) ?_ ?_
   rotate_left
   ·intro w'
    go_simp
    rfl
   rotate_left
   ·simp only [Act.put,sA,sZ,sS]
    rfl
   refine pure_ (i:=3) (N:=some 79) (v:=?_) (a':=?_) M0I rfl rfl (by kernel_rfl) (fun _ _ _ h => h) (Or.inl ⟨by rfl,?_⟩) ?_ ?_
   rotate_left
   ·intro w'
    go_simp
    with_reducible rfl
   rotate_left
   ·simp only [Act.put,sA,sZ,sS]
    rfl
   refine pure_ (i:=4) (N:=some 80) (v:=?_) (a':=?_) M0J rfl rfl (by kernel_rfl) (fun _ _ _ h => h) (Or.inl ⟨by rfl,?_⟩) ?_ ?_
   rotate_left
   ·intro w'
    go_simp
    with_reducible rfl
   rotate_left
   ·simp only [Act.put,sA,sZ,sS]
    rfl
   refine pure_ (i:=5) (N:=some 81) (v:=?_) (a':=?_) M0K rfl rfl (by kernel_rfl) (fun _ _ _ h => h) (Or.inl ⟨by rfl,?_⟩) ?_ ?_
   rotate_left
   ·intro w'
    go_simp
    with_reducible rfl
   rotate_left
   ·simp only [Act.put,sA,sZ,sS]
    rfl
   refine pure_ (i:=6) (N:=some 82) (v:=?_) (a':=?_) M0M rfl rfl (by kernel_rfl) (fun _ _ _ h => h) (Or.inl ⟨by rfl,?_⟩) ?_ ?_
   rotate_left
   ·intro w'
    go_simp
    with_reducible rfl
   rotate_left
   ·simp only [Act.put,sA,sZ,sS]
    rfl
   refine pure_ (i:=7) (N:=some 83) (v:=?_) (a':=?_) M0N rfl rfl (by kernel_rfl) (fun _ _ _ h => h) (Or.inl ⟨by rfl,?_⟩) ?_ ?_
   rotate_left
   ·intro w'
    go_simp
    rfl
   rotate_left
   ·simp only [Act.put,sA,sZ,sS]
    rfl
   refine pure_ (i:=8) (N:=some 84) (v:=?_) (a':=?_) M0O rfl rfl (by kernel_rfl) (fun _ _ _ h => h) (Or.inl ⟨by rfl,?_⟩) ?_ ?_
   rotate_left
   ·intro w'
    go_simp
    rfl
   rotate_left
   ·simp only [Act.put,sA,sZ,sS]
    rfl
   refine take_ (i:=9) (N:=some 85) (v:=?_) (a':=?_) M0P rfl rfl (by kernel_rfl) (fun _ _ _ h => h) (Or.inl ⟨by rfl,?_⟩) hHeld ?_ ?_
   rotate_left
   ·intro w' s0
    have hc1:w'.cell? ⟨gp,1,none⟩ = some (.int .u32 b0):=(blk_cell s0.1 1).trans (by rw [← HYB0x.out]; rfl)
    clear s0
    go_simp
    rfl
   rotate_left
   ·simp only [Act.put,sA,sZ,sS]
    rfl
   refine take_ (i:=10) (N:=some 86) (v:=?_) (a':=?_) M0R rfl rfl (by kernel_rfl) (fun _ _ _ h => h) (Or.inl ⟨by rfl,?_⟩) hHeld ?_ ?_
   rotate_left
   ·intro w' s0
    have hu27:=Try.underlying27
    have hd0:w'.cell? ⟨wr.heap.size,0,none⟩ = some (.int .i64 p.kind):=(blk_cell s0.2 0).trans rfl
    have hd1:w'.cell? ⟨wr.heap.size,1,none⟩ = some (.int .u32 p.mine):=(blk_cell s0.2 1).trans rfl
    have hd2:w'.cell? ⟨wr.heap.size,2,none⟩ = some (.int .u32 p.boot):=(blk_cell s0.2 2).trans rfl
    have hd3:w'.cell? ⟨wr.heap.size,3,none⟩ = some (.int .u32 p.yours):=(blk_cell s0.2 3).trans rfl
    have hd4:w'.cell? ⟨wr.heap.size,4,none⟩ = some (.int .u32 p.seq):=(blk_cell s0.2 4).trans rfl
    have hd5:w'.cell? ⟨wr.heap.size,5,none⟩ = some (.int .u32 p.ack):=(blk_cell s0.2 5).trans rfl
    have hd6:w'.cell? ⟨wr.heap.size,6,none⟩ = some (.int .u32 p.stamp):=(blk_cell s0.2 6).trans rfl
    have hd7:w'.cell? ⟨wr.heap.size,7,none⟩ = some (.int .u32 p.echo):=(blk_cell s0.2 7).trans rfl
    have hd8:w'.cell? ⟨wr.heap.size,8,none⟩ = some (.complex .f64 p.zr p.zi):=(blk_cell s0.2 8).trans rfl
    have hd9:w'.cell? ⟨wr.heap.size,9,none⟩ = some (.slice A2 p.body.length c2):=(blk_cell s0.2 9).trans rfl
    clear s0
    go_simp
    try rfl
   rotate_left
   ·simp only [Act.put,sA,sZ,sS]
    rfl
   refine pure_ (i:=11) (N:=some 87) (v:=?_) (a':=?_) M0T rfl rfl (by kernel_rfl) (fun _ _ _ h => h) (Or.inl ⟨by rfl,?_⟩) ?_ ?_
   rotate_left
   ·intro w'
    go_simp
    rfl
   rotate_left
   ·simp only [Act.put,sA,sZ,sS]
    rfl
   refine last_ (i:=12) (N:=some 88) M0U rfl rfl (by kernel_rfl) (by decide) (fun K hK => ?_)
   refine goes_ Try.func83 (by kernel_rfl) rfl #[.pointer (some ⟨gp,0,none⟩),.agg #[.int .i64 1,.int .u32 b0,.int .i64 p.kind,.int .u32 p.mine,.int .u32 p.boot,.int .u32 p.yours,.int .u32 p.seq,.int .u32 p.ack,.int .u32 p.stamp,.int .u32 p.echo,.complex .f64 p.zr p.zi,.slice A2 p.body.length c2]] (by rfl) rfl rfl (by (try simp only [List.map_toArray,List.map_cons,List.map_nil]); first | done | rfl) ?_
   have hc9:=PL.put (s:=0) (b:=(Y.sd 0).boot) (b0:=b0) (p:=p) (A2:=A2) (c2:=c2) (1:Int) (by decide) (by have:=HN0.out; have:=HLT0x.out; omega) HYI0x.out HPP0x.out HB00x.out HP0x.out HU0x.out HX0x.out HR0x.out HK0x.out HB0x.out HBD.out HYW0x.out HRB0x.out
   (with_reducible refine hc9.mono ?_)
   clear hc9
   rintro e w10 ⟨rfl,hst⟩
   refine ⟨_,rfl,?_⟩
   have HST:=Lib.hid hst
   clear hst hHeld
   refine hK.out _ _ ?_
   clear hK K
   refine done_ (by kernel_rfl) ?_
   go_wp2_with fail
   go_roundg (n0 - (i + 1))
   case measure => have:=HM0.out; have:=HN0.out; have:=HLT0x.out; omega
   case rel => exact ⟨i + 1,rfl,by have:=HN0.out; have:=HLT0x.out; omega,by first | rfl | simp,HST.out⟩
  ·have hd:decide ((i:Int) < (n0:Int)) = false:=by simp; omega
   have hie:i = n0:=by have:=HIN0.out; omega
   subst hie
   have hfin:=HF0.out
   have HWn0:Hid (WTurn w B gp U (pumpX Y 0) wr):=Lib.hid (by have hx:=HN0.out; rw [← hx] at hfin; exact PL.end_ hfin)
   clear hfin hlt
   go_wp2_with fail
   obtain ⟨⟨ge1,own1,lv1,wv1,hP,hU⟩,hk,hb⟩:=HWn0.out
   have hce1:wr.cell? ⟨gp,9,none⟩ = some (.pointer (some ⟨ge1 1,0,none⟩)):=(blk_cell hP.blk 9).trans rfl
   have HP1:=Lib.hid hP
   have HU1:=Lib.hid hU
   have HK1:=Lib.hid hk
   have HB1:=Lib.hid hb
   clear hP hU hk hb
   rw [rounds_succ]
   go_wp2_with (go_at_call 32; (have hc:=out_fine' (HP1.out.e 1 (by decide))); (with_reducible refine hc.mono ?_); clear hc; rintro e wo1 ⟨o1,okx,own',rfl,hE,ho,hR,hx,hkp,hz,hb,hg⟩; (obtain ⟨A11,c11,ho1⟩:=Kd.R_slice hR); subst ho1; (have HL1:=Lib.hid (PL.start (s:=1) (by decide) HP1.out HU1.out HK1.out HB1.out hE ho hR hx hkp hz hb hg)); (clear hE ho hR hx hkp hz hb hg))
   have hnb1:=HOY1.out
   generalize hnl1:((pumpX Y 0).sd 1).end_.out.length = n1 at *
   have HN1:=Lib.hid hnl1
   clear hnl1 hce1
   go_loopg [72] n1 (fun m v wr => ∃ i:Nat,m = n1 - i ∧ i ≤ n1 ∧ v = .int .i64 (i:Int) ∧ PL w B gp U ((pumpX Y 0).set 1 { (pumpX Y 0).sd 1 with end_:=outL ((pumpX Y 0).sd 1).end_ }) 1 ((pumpX Y 0).sd 1).boot (.slice A11 n1 c11) ((pumpX Y 0).sd 1).end_.out i wr)
   case atStart => exact ⟨0,rfl,Nat.zero_le _,rfl,HL1.out⟩
   case round =>
    obtain ⟨i,hm,hin,rfl,hF⟩:=hrel
    have HM1:=Lib.hid hm
    have HIN1:=Lib.hid hin
    have HF1:=Lib.hid hF
    clear hm hin hF
    by_cases hlt:(i:Int) < (n1:Int)
    ·have hd:decide ((i:Int) < (n1:Int)) = true:=by simp [hlt]
     have hsz:=HF1.out.size
     have HSZ:=Lib.hid hsz
     clear hsz
     obtain ⟨ge,own,lv,wv,okx,hP,hU,hx,hR,hk,hb⟩:=HF1.out
     obtain ⟨gx,cs,hA1,hM,hrg,hcl,hnp⟩:=pkt_elem hR i (by omega)
     subst hA1
     obtain ⟨b2,hb2,hRB⟩:=pkt_M.1 hM
     subst hb2
     obtain ⟨A2,c2,hb3⟩:=Kd.R_slice hRB
     subst hb3
     obtain ⟨Yi,hYi⟩:∃ Yi,Yi = putsX ((pumpX Y 0).set 1 { (pumpX Y 0).sd 1 with end_:=outL ((pumpX Y 0).sd 1).end_ }) ((1:Nat):Int) ((pumpX Y 0).sd 1).boot (((pumpX Y 0).sd 1).end_.out.take i):=⟨_,rfl⟩
     rw [← hYi] at hP
     obtain ⟨b0,hb0⟩:∃ b0,b0 = ((pumpX Y 0).sd 1).boot:=⟨_,rfl⟩
     have hYb:(Yi.sd 1).boot = b0:=by rw [hYi,putsX_sd,hb0]; rfl
     have hYw:Yi.way.length ≤ 1024:=by rw [hYi]; exact putsX_way _ _ _ _ HWY1.out
     obtain ⟨p,hp⟩:∃ p,p = ((pumpX Y 0).sd 1).end_.out.getD i nilP:=⟨_,rfl⟩
     rw [← hp] at hRB hrg hcl hM
     have HP1x:=Lib.hid hP
     have HU1x:=Lib.hid hU
     have HX1x:=Lib.hid hx
     have HR1x:=Lib.hid hR
     have HK1x:=Lib.hid hk
     have HB1x:=Lib.hid hb
     have HRB1x:=Lib.hid hRB
     have HRG1x:=Lib.hid hrg
     have HYI1x:=Lib.hid hYi
     have HB01x:=Lib.hid hb0
     have HYB1x:=Lib.hid hYb
     have HYW1x:=Lib.hid hYw
     have HPP1x:=Lib.hid hp
     have HLT1x:=Lib.hid hlt
     clear hP hU hx hR hk hb hRB hrg hcl hM hYi hb0 hYb hYw hp hnp hlt
     have hlt:i < n1:=by have:=HLT1x.out; omega
     have HZ1:=Lib.hid (heap_alloc_new wr (.cells #[.int .i64 0,.int .u32 0,.int .u32 0,.int .u32 0,.int .u32 0,.int .u32 0,.int .u32 0,.int .u32 0,.complex .f64 0 0,.slice none 0 0] 27))
     go_wp2_with (first | ((with_reducible refine gate_dst (N:=75) rfl ?_); (refine wpList_load_mid rfl 27 (.tmp 74) rfl gx (i * 10) (by first | rfl | (simp; done)) (cells p (.slice A2 p.body.length c2)) _ HRG1x.out Try.underlying27 rfl (by kernel_rfl) ?_)) | ((with_reducible refine gate_ (.store 27 (.tmp 10) (.tmp 75)) rfl ?_); (refine store_row_F rfl rfl 27 (.tmp 10) (.tmp 75) rfl wr.heap.size #[.int .i64 p.kind,.int .u32 p.mine,.int .u32 p.boot,.int .u32 p.yours,.int .u32 p.seq,.int .u32 p.ack,.int .u32 p.stamp,.int .u32 p.echo,.complex .f64 p.zr p.zi,.slice A2 p.body.length c2] rfl rfl 27 _ HZ1.out (by kernel_rfl) rfl (by kernel_rfl) ?_); (intro w8 hb8 hat8); (have HB8:=Lib.hid hb8); (have HBL8:=Lib.hid (hat8.below ((Below.refl wr.heap.size wr).alloc (Nat.le_refl _) _) (Nat.le_refl _))); (clear hb8 hat8)))
     have hbd:=bl_drew HBL8.out
     have hSS:w8.drew.heap[gp]? = some (.cells (prow Yi ge lv wv) 143 (0,0)) ∧ w8.drew.heap[wr.heap.size]? = some (.cells #[.int .i64 p.kind,.int .u32 p.mine,.int .u32 p.boot,.int .u32 p.yours,.int .u32 p.seq,.int .u32 p.ack,.int .u32 p.stamp,.int .u32 p.echo,.complex .f64 p.zr p.zi,.slice A2 p.body.length c2] 27 (0,0)):=⟨(HP1x.out.sub hbd).blk,HB8.out⟩
     clear HB8 HBL8
     refine start_ (n:=13) (S:=fun w' => w'.heap[gp]? = some (.cells (prow Yi ge lv wv) 143 (0,0)) ∧ w'.heap[wr.heap.size]? = some (.cells #[.int .i64 p.kind,.int .u32 p.mine,.int .u32 p.boot,.int .u32 p.yours,.int .u32 p.seq,.int .u32 p.ack,.int .u32 p.stamp,.int .u32 p.echo,.complex .f64 p.zr p.zi,.slice A2 p.body.length c2] 27 (0,0))) (ds:=[12]) M0E (by kernel_rfl) rfl rfl (hSS) (fun hHeld => ?_)
     generalize w8.drew = w9 at hbd hHeld ⊢
     have HBD:=Lib.hid hbd
     clear hbd
     refine pure_ (i:=0) (N:=some 76) (v:=?_) (a':=?_) M0F rfl rfl (by kernel_rfl) (fun _ _ _ h => h) (Or.inl ⟨by rfl,?_⟩) ?_ ?_
     rotate_left
     ·intro w'
      go_simp
      with_reducible rfl
     rotate_left
     ·simp only [Act.put,sA,sZ,sS]
      rfl
     refine pure_ (i:=1) (N:=some 77) (v:=?_) (a':=?_) M0G rfl rfl (by kernel_rfl) (fun _ _ _ h => h) (Or.inl ⟨by rfl,?_⟩) ?_ ?_
     rotate_left
     ·intro w'
      go_simp
      with_reducible rfl
     rotate_left
     ·simp only [Act.put,sA,sZ,sS]
      rfl
     refine pure_ (i:=2) (N:=some 78) (v:=?_) (a':=?_) M0H rfl rfl (by kernel_rfl) (fun _ _ _ h => h) (Or.inl ⟨by rfl,?_⟩) ?_ ?_
     rotate_left
     ·intro w'
      go_simp
      rfl
     rotate_left
     ·simp only [Act.put,sA,sZ,sS]
      rfl
     refine pure_ (i:=3) (N:=some 79) (v:=?_) (a':=?_) M0I rfl rfl (by kernel_rfl) (fun _ _ _ h => h) (Or.inl ⟨by rfl,?_⟩) ?_ ?_
     rotate_left
     ·intro w'
      go_simp
      with_reducible rfl
     rotate_left
     ·simp only [Act.put,sA,sZ,sS]
      rfl
     refine pure_ (i:=4) (N:=some 80) (v:=?_) (a':=?_) M0J rfl rfl (by kernel_rfl) (fun _ _ _ h => h) (Or.inl ⟨by rfl,?_⟩) ?_ ?_
     rotate_left
     ·intro w'
      go_simp
      with_reducible rfl
     rotate_left
     ·simp only [Act.put,sA,sZ,sS]
      rfl
     refine pure_ (i:=5) (N:=some 81) (v:=?_) (a':=?_) M0K rfl rfl (by kernel_rfl) (fun _ _ _ h => h) (Or.inl ⟨by rfl,?_⟩) ?_ ?_
     rotate_left
     ·intro w'
      go_simp
      with_reducible rfl
     rotate_left
     ·simp only [Act.put,sA,sZ,sS]
      rfl
     refine pure_ (i:=6) (N:=some 82) (v:=?_) (a':=?_) M0M rfl rfl (by kernel_rfl) (fun _ _ _ h => h) (Or.inl ⟨by rfl,?_⟩) ?_ ?_
     rotate_left
     ·intro w'
      go_simp
      with_reducible rfl
     rotate_left
     ·simp only [Act.put,sA,sZ,sS]
      rfl
     refine pure_ (i:=7) (N:=some 83) (v:=?_) (a':=?_) M0N rfl rfl (by kernel_rfl) (fun _ _ _ h => h) (Or.inl ⟨by rfl,?_⟩) ?_ ?_
     rotate_left
     ·intro w'
      go_simp
      rfl
     rotate_left
     ·simp only [Act.put,sA,sZ,sS]
      rfl
     refine pure_ (i:=8) (N:=some 84) (v:=?_) (a':=?_) M0O rfl rfl (by kernel_rfl) (fun _ _ _ h => h) (Or.inl ⟨by rfl,?_⟩) ?_ ?_
     rotate_left
     ·intro w'
      go_simp
      rfl
     rotate_left
     ·simp only [Act.put,sA,sZ,sS]
      rfl
     refine take_ (i:=9) (N:=some 85) (v:=?_) (a':=?_) M0P rfl rfl (by kernel_rfl) (fun _ _ _ h => h) (Or.inl ⟨by rfl,?_⟩) hHeld ?_ ?_
     rotate_left
     ·intro w' s0
      have hc1:w'.cell? ⟨gp,10,none⟩ = some (.int .u32 b0):=(blk_cell s0.1 10).trans (by rw [← HYB1x.out]; rfl)
      clear s0
      go_simp
      rfl
     rotate_left
     ·simp only [Act.put,sA,sZ,sS]
      rfl
     refine take_ (i:=10) (N:=some 86) (v:=?_) (a':=?_) M0R rfl rfl (by kernel_rfl) (fun _ _ _ h => h) (Or.inl ⟨by rfl,?_⟩) hHeld ?_ ?_
     rotate_left
     ·intro w' s0
      have hu27:=Try.underlying27
      have hd0:w'.cell? ⟨wr.heap.size,0,none⟩ = some (.int .i64 p.kind):=(blk_cell s0.2 0).trans rfl
      have hd1:w'.cell? ⟨wr.heap.size,1,none⟩ = some (.int .u32 p.mine):=(blk_cell s0.2 1).trans rfl
      have hd2:w'.cell? ⟨wr.heap.size,2,none⟩ = some (.int .u32 p.boot):=(blk_cell s0.2 2).trans rfl
      have hd3:w'.cell? ⟨wr.heap.size,3,none⟩ = some (.int .u32 p.yours):=(blk_cell s0.2 3).trans rfl
      have hd4:w'.cell? ⟨wr.heap.size,4,none⟩ = some (.int .u32 p.seq):=(blk_cell s0.2 4).trans rfl
      have hd5:w'.cell? ⟨wr.heap.size,5,none⟩ = some (.int .u32 p.ack):=(blk_cell s0.2 5).trans rfl
      have hd6:w'.cell? ⟨wr.heap.size,6,none⟩ = some (.int .u32 p.stamp):=(blk_cell s0.2 6).trans rfl
      have hd7:w'.cell? ⟨wr.heap.size,7,none⟩ = some (.int .u32 p.echo):=(blk_cell s0.2 7).trans rfl
      have hd8:w'.cell? ⟨wr.heap.size,8,none⟩ = some (.complex .f64 p.zr p.zi):=(blk_cell s0.2 8).trans rfl
      have hd9:w'.cell? ⟨wr.heap.size,9,none⟩ = some (.slice A2 p.body.length c2):=(blk_cell s0.2 9).trans rfl
      clear s0
      go_simp
      try rfl
     rotate_left
     ·simp only [Act.put,sA,sZ,sS]
      rfl
     refine pure_ (i:=11) (N:=some 87) (v:=?_) (a':=?_) M0T rfl rfl (by kernel_rfl) (fun _ _ _ h => h) (Or.inl ⟨by rfl,?_⟩) ?_ ?_
     rotate_left
     ·intro w'
      go_simp
      rfl
     rotate_left
     ·simp only [Act.put,sA,sZ,sS]
      rfl
     refine last_ (i:=12) (N:=some 88) M0U rfl rfl (by kernel_rfl) (by decide) (fun K hK => ?_)
     refine goes_ Try.func83 (by kernel_rfl) rfl #[.pointer (some ⟨gp,0,none⟩),.agg #[.int .i64 0,.int .u32 b0,.int .i64 p.kind,.int .u32 p.mine,.int .u32 p.boot,.int .u32 p.yours,.int .u32 p.seq,.int .u32 p.ack,.int .u32 p.stamp,.int .u32 p.echo,.complex .f64 p.zr p.zi,.slice A2 p.body.length c2]] (by rfl) rfl rfl (by (try simp only [List.map_toArray,List.map_cons,List.map_nil]); first | done | rfl) ?_
     have hc9:=PL.put (s:=1) (b:=((pumpX Y 0).sd 1).boot) (b0:=b0) (p:=p) (A2:=A2) (c2:=c2) (0:Int) (by decide) (by have:=HN1.out; have:=HLT1x.out; omega) HYI1x.out HPP1x.out HB01x.out HP1x.out HU1x.out HX1x.out HR1x.out HK1x.out HB1x.out HBD.out HYW1x.out HRB1x.out
     (with_reducible refine hc9.mono ?_)
     clear hc9
     rintro e w10 ⟨rfl,hst⟩
     refine ⟨_,rfl,?_⟩
     have HST:=Lib.hid hst
     clear hst hHeld
     refine hK.out _ _ ?_
     clear hK K
     refine done_ (by kernel_rfl) ?_
     go_wp2_with fail
     go_roundg (n1 - (i + 1))
     case measure => have:=HM1.out; have:=HN1.out; have:=HLT1x.out; omega
     case rel => exact ⟨i + 1,rfl,by have:=HN1.out; have:=HLT1x.out; omega,by first | rfl | simp,HST.out⟩
    ·have hd:decide ((i:Int) < (n1:Int)) = false:=by simp; omega
     have hie:i = n1:=by have:=HIN1.out; omega
     subst hie
     have hfin:=HF1.out
     have HWn1:Hid (WTurn w B gp U (pumpX (pumpX Y 0) 1) wr):=Lib.hid (by have hx:=HN1.out; rw [← hx] at hfin; exact PL.end_ hfin)
     clear hfin hlt
     go_wp2_with fail
     rw [rounds_succ]
     go_wp2_with fail
     all_goals (go_ret; exact ⟨rfl,HWn1.out⟩)
set_option maxRecDepth 100000 in
set_option maxHeartbeats 4000000 in
theorem do_a1 {w : World} {B gp : Nat} {ge : Nat → Nat} {own : Nat → Nat → Prop} {X Y : Pr} {lv : Nat → Value} {wv : Value} {U : Nat → Prop} (h : PAt w B gp ge own X lv wv) (kind : Int) (i : Int) (hg1 : kind < 6) (Ab : Option Addr) (nb cb : Nat) (fn : FuncId) (f : Func) (hfn : Try.prog.funcs[fn]? = some f) (hnm : (f.name == "runtime.NumGoroutine") = false) (hbs : f.body.isSome = true) (E : Int)
  (hlook:∀ (W:World) (r:Nat),W.heap[r]? = some (.map actsE8 8) → (Instr.lookup 146 (.map (some r)) (.int .i64 kind) true).run Try.prog W = .ok (.tuple #[.func (.func fn) #[] #[],.bool true]) W)
  (hcall:∀ w':World,Below w.heap.size w w' → Calls Try.prog fn #[.pointer (some ⟨gp,0,none⟩),.agg #[.int .i64 kind,.int .i64 1,.int .i64 i,.slice Ab nb cb]] w' fun e w'' => e = .returned (.int .i64 E) ∧ WTurn w' B gp U Y w'')
  (hoy:∀ s,s < 2 → (Y.sd s).end_.Ok) (hwy:Y.way.length ≤ 1024) :
  Calls Try.prog 41 #[.pointer (some ⟨gp,0,none⟩),.agg #[.int .i64 kind,.int .i64 1,.int .i64 i,.slice Ab nb cb]] w fun e w' => e = .returned (.int .i64 E) ∧ WTurn w B gp U (pumpX (pumpX Y 0) 1) w':=by
 have hba:Below w.heap.size w (w.alloc (.cells #[.int .i64 kind,.int .i64 1,.int .i64 i,.slice Ab nb cb] 72)):=(Below.refl _ _).alloc (Nat.le_refl _) _
 have hSS:(w.alloc (.cells #[.int .i64 kind,.int .i64 1,.int .i64 i,.slice Ab nb cb] 72)).drew.heap[w.heap.size]? = some (.cells #[.int .i64 kind,.int .i64 1,.int .i64 i,.slice Ab nb cb] 72 (0,0)):=heap_alloc_new w _
 obtain ⟨Aw,cw,_,hwv,_⟩:=h.way.reads
 subst hwv
 have HSS:=Lib.hid hSS
 have HBD0:=Lib.hid (bl_drew hba)
 have H:=Lib.hid h
 have HFN:=Lib.hid hfn
 have HNM:=Lib.hid hnm
 have HBS:=Lib.hid hbs
 have HLOOK:=Lib.hid hlook
 have HCALL:=Lib.hid hcall
 have HOY0:=Lib.hid (hoy 0 (by decide)).out
 have hoy1:(pumpX Y 0).sd 1 = Y.sd 1:=by show (putsX _ _ _ _).sd 1 = _; rw [putsX_sd]; rfl
 have HOY1:Hid (((pumpX Y 0).sd 1).end_.out.length ≤ _):=Lib.hid (by rw [hoy1]; exact (hoy 1 (by decide)).out)
 have HWY0:=Lib.hid hwy
 have HWY1:Hid ((pumpX Y 0).way.length ≤ 1024):=Lib.hid (putsX_way _ _ _ _ hwy)
 clear h hba hSS hfn hnm hbs hlook hcall hoy hoy1 hwy
 go_enter Try.func41,Try.ntmps41
 go_wp2_with fail
 have hSS:=HSS.out
 have hbd:=HBD0.out
 clear HSS HBD0
 refine start_ (n:=9) (S:=fun w' => w'.heap[w.heap.size]? = some (.cells #[.int .i64 kind,.int .i64 1,.int .i64 i,.slice Ab nb cb] 72 (0,0))) (ds:=[]) M0L (by kernel_rfl) rfl rfl (hSS) (fun hHeld => ?_)
 generalize (w.alloc (.cells #[.int .i64 kind,.int .i64 1,.int .i64 i,.slice Ab nb cb] 72)).drew = w2 at hbd hHeld ⊢
 have HBD:=Lib.hid hbd
 clear hbd
 refine pure_ (i:=1) (N:=some 15) (v:=?_) (a':=?_) M17 rfl rfl (by kernel_rfl) (fun _ _ _ h => h) (Or.inl ⟨by rfl,?_⟩) ?_ ?_
 rotate_left
 ·intro w'
  go_simp
  with_reducible rfl
 rotate_left
 ·simp only [Act.put,sA,sZ,sS]
  rfl
 refine take_ (i:=2) (N:=some 16) (v:=?_) (a':=?_) M18 rfl rfl (by kernel_rfl) (fun _ _ _ h => h) (Or.inl ⟨by rfl,?_⟩) hHeld ?_ ?_
 rotate_left
 ·intro w' s0
  have hc0:w'.cell? ⟨w.heap.size,0,none⟩ = some (.int .i64 kind):=(blk_cell s0 0).trans rfl
  clear s0
  go_simp
  with_reducible rfl
 rotate_left
 ·simp only [Act.put,sA,sZ,sS]
  rfl
 refine one_ (i:=0) (N:=some 14) M0Q rfl rfl (by kernel_rfl) (by decide) (fun K hK => ?_)
 refine goes_ Try.func82 (by kernel_rfl) rfl #[] (by rfl) rfl rfl (by (try simp only [List.map_toArray,List.map_cons,List.map_nil]); first | done | rfl) ?_
 refine (acts_of w2).mono ?_
 rintro e w3 ⟨rfl,hmap,hb3⟩
 refine ⟨_,rfl,?_⟩
 have hS3:w3.heap[w.heap.size]? = some (.cells #[.int .i64 kind,.int .i64 1,.int .i64 i,.slice Ab nb cb] 72 (0,0)):=(hb3.block _ (blk_lt hHeld)).trans hHeld
 have HMAP:=Lib.hid hmap
 have HB3:=Lib.hid (HBD.out.trans (hb3.mono HBD.out.size))
 have HS3:=Lib.hid hS3
 generalize w2.heap.size = gm at *
 clear hmap hb3 hHeld
 refine hK.out _ _ hS3 (fun hHeld => ?_)
 clear hK K hS3
 refine norm_ (a':=?_) ?_ ?_
 rotate_left
 ·show Act.put _ (some 14) _ = _
  simp only [Act.put,sA,sZ,sS]
  rfl
 refine one_ (i:=3) (N:=some 17) M0S rfl rfl (by kernel_rfl) (by decide) (fun K hK => ?_)
 have hlk:=HLOOK.out w3 gm HMAP.out
 refine value_ (v:=.tuple #[.func (.func fn) #[] #[],.bool true]) (by rfl) rfl (w1:=w3) (by first | (go_simp; done) | (go_simp; rfl)) ?_
 clear hlk
 refine hK.out _ _ hHeld (fun hHeld => ?_)
 clear hK K
 refine norm_ (a':=?_) ?_ ?_
 rotate_left
 ·show Act.put _ (some 17) _ = _
  simp only [Act.put,sA,sZ,sS]
  rfl
 refine pure_ (i:=4) (N:=some 13) (v:=?_) (a':=?_) M0V rfl rfl (by kernel_rfl) (fun _ _ _ h => h) (Or.inl ⟨by rfl,?_⟩) ?_ ?_
 rotate_left
 ·intro w'
  go_simp
  with_reducible rfl
 rotate_left
 ·simp only [Act.put,sA,sZ,sS]
  rfl
 refine pure_ (i:=5) (N:=some 18) (v:=?_) (a':=?_) M0X rfl rfl (by kernel_rfl) (fun _ _ _ h => h) (Or.inl ⟨by rfl,?_⟩) ?_ ?_
 rotate_left
 ·intro w'
  go_simp
  with_reducible rfl
 rotate_left
 ·simp only [Act.put,sA,sZ,sS]
  rfl
 refine pure_ (i:=6) (N:=some 19) (v:=?_) (a':=?_) M10 rfl rfl (by kernel_rfl) (fun _ _ _ h => h) (Or.inl ⟨by rfl,?_⟩) ?_ ?_
 rotate_left
 ·intro w'
  go_simp
  with_reducible rfl
 rotate_left
 ·simp only [Act.put,sA,sZ,sS]
  rfl
 refine pure_ (i:=7) (N:=some 5) (v:=?_) (a':=?_) M11 rfl rfl (by kernel_rfl) (fun _ _ _ h => h) (Or.inl ⟨by rfl,?_⟩) ?_ ?_
 rotate_left
 ·intro w'
  go_simp
  with_reducible rfl
 rotate_left
 ·simp only [Act.put,sA,sZ,sS]
  rfl
 refine pure_ (i:=8) (N:=some 6) (v:=?_) (a':=?_) M12 rfl rfl (by kernel_rfl) (fun _ _ _ h => h) (Or.inl ⟨by rfl,?_⟩) ?_ ?_
 rotate_left
 ·intro w'
  go_simp
  with_reducible rfl
 rotate_left
 ·simp only [Act.put,sA,sZ,sS]
  rfl
 refine done_ (by kernel_rfl) ?_
 clear hHeld
 have hk0:w3.cell? ⟨w.heap.size,0,none⟩ = some (.int .i64 kind):=(blk_cell HS3.out 0).trans rfl
 have hk1:w3.cell? ⟨w.heap.size,1,none⟩ = some (.int .i64 1):=(blk_cell HS3.out 1).trans rfl
 have hk2:w3.cell? ⟨w.heap.size,2,none⟩ = some (.int .i64 i):=(blk_cell HS3.out 2).trans rfl
 have hk3:w3.cell? ⟨w.heap.size,3,none⟩ = some (.slice Ab nb cb):=(blk_cell HS3.out 3).trans rfl
 have hw18:w3.cell? ⟨gp,18,none⟩ = some (.slice Aw X.way.length cw):=(blk_cell (H.out.sub HB3.out).blk 18).trans rfl
 have hg6:decide (kind < 6) = true:=by simp [hg1]
 have hg7:decide (kind ≥ 6) = false:=by simp; omega
 go_wp2_with fail
 go_quiet (fail)
 rename Nat => nq1
 have hu72:=Try.underlying72
 go_wp2_with (rw [enters_ HFN.out HNM.out HBS.out,Oper.upon_enter]; (refine (HCALL.out (w3.drewN nq1) (bl_drewN HB3.out nq1)).mono ?_); (rintro e w6 ⟨rfl,hT⟩); (have HW6:=Lib.hid (WTurn.from_ H.out.hB (bl_drewN HB3.out nq1) hT)); (clear hT))
 refine wp_loop_rounds 3 ?_
 obtain ⟨⟨ge0,own0,lv0,wv0,hP,hU⟩,hk,hb⟩:=HW6.out
 have hce0:w6.cell? ⟨gp,0,none⟩ = some (.pointer (some ⟨ge0 0,0,none⟩)):=(blk_cell hP.blk 0).trans rfl
 have HP0:=Lib.hid hP
 have HU0:=Lib.hid hU
 have HK0:=Lib.hid hk
 have HB0:=Lib.hid hb
 clear hP hU hk hb
 rw [rounds_succ]
 go_wp2_with (go_at_call 32; (have hc:=out_fine' (HP0.out.e 0 (by decide))); (with_reducible refine hc.mono ?_); clear hc; rintro e wo0 ⟨o1,okx,own',rfl,hE,ho,hR,hx,hkp,hz,hb,hg⟩; (obtain ⟨A10,c10,ho1⟩:=Kd.R_slice hR); subst ho1; (have HL0:=Lib.hid (PL.start (s:=0) (by decide) HP0.out HU0.out HK0.out HB0.out hE ho hR hx hkp hz hb hg)); (clear hE ho hR hx hkp hz hb hg))
 have hnb0:=HOY0.out
 generalize hnl0:(Y.sd 0).end_.out.length = n0 at *
 have HN0:=Lib.hid hnl0
 clear hnl0 hce0
 go_loopg [72] n0 (fun m v wr => ∃ i:Nat,m = n0 - i ∧ i ≤ n0 ∧ v = .int .i64 (i:Int) ∧ PL w B gp U (Y.set 0 { Y.sd 0 with end_:=outL (Y.sd 0).end_ }) 0 (Y.sd 0).boot (.slice A10 n0 c10) (Y.sd 0).end_.out i wr)
 case atStart => exact ⟨0,rfl,Nat.zero_le _,rfl,HL0.out⟩
 case round =>
  obtain ⟨i,hm,hin,rfl,hF⟩:=hrel
  have HM0:=Lib.hid hm
  have HIN0:=Lib.hid hin
  have HF0:=Lib.hid hF
  clear hm hin hF
  by_cases hlt:(i:Int) < (n0:Int)
  ·have hd:decide ((i:Int) < (n0:Int)) = true:=by simp [hlt]
   have hsz:=HF0.out.size
   have HSZ:=Lib.hid hsz
   clear hsz
   obtain ⟨ge,own,lv,wv,okx,hP,hU,hx,hR,hk,hb⟩:=HF0.out
   obtain ⟨gx,cs,hA1,hM,hrg,hcl,hnp⟩:=pkt_elem hR i (by omega)
   subst hA1
   obtain ⟨b2,hb2,hRB⟩:=pkt_M.1 hM
   subst hb2
   obtain ⟨A2,c2,hb3⟩:=Kd.R_slice hRB
   subst hb3
   obtain ⟨Yi,hYi⟩:∃ Yi,Yi = putsX (Y.set 0 { Y.sd 0 with end_:=outL (Y.sd 0).end_ }) ((0:Nat):Int) (Y.sd 0).boot ((Y.sd 0).end_.out.take i):=⟨_,rfl⟩
   rw [← hYi] at hP
   obtain ⟨b0,hb0⟩:∃ b0,b0 = (Y.sd 0).boot:=⟨_,rfl⟩
   have hYb:(Yi.sd 0).boot = b0:=by rw [hYi,putsX_sd,hb0]; rfl
   have hYw:Yi.way.length ≤ 1024:=by rw [hYi]; exact putsX_way _ _ _ _ HWY0.out
   obtain ⟨p,hp⟩:∃ p,p = (Y.sd 0).end_.out.getD i nilP:=⟨_,rfl⟩
   rw [← hp] at hRB hrg hcl hM
   have HP0x:=Lib.hid hP
   have HU0x:=Lib.hid hU
   have HX0x:=Lib.hid hx
   have HR0x:=Lib.hid hR
   have HK0x:=Lib.hid hk
   have HB0x:=Lib.hid hb
   have HRB0x:=Lib.hid hRB
   have HRG0x:=Lib.hid hrg
   have HYI0x:=Lib.hid hYi
   have HB00x:=Lib.hid hb0
   have HYB0x:=Lib.hid hYb
   have HYW0x:=Lib.hid hYw
   have HPP0x:=Lib.hid hp
   have HLT0x:=Lib.hid hlt
   clear hP hU hx hR hk hb hRB hrg hcl hM hYi hb0 hYb hYw hp hnp hlt
   have hlt:i < n0:=by have:=HLT0x.out; omega
   have HZ0:=Lib.hid (heap_alloc_new wr (.cells #[.int .i64 0,.int .u32 0,.int .u32 0,.int .u32 0,.int .u32 0,.int .u32 0,.int .u32 0,.int .u32 0,.complex .f64 0 0,.slice none 0 0] 27))
   go_wp2_with (first | ((with_reducible refine gate_dst (N:=75) rfl ?_); (refine wpList_load_mid rfl 27 (.tmp 74) rfl gx (i * 10) (by first | rfl | (simp; done)) (cells p (.slice A2 p.body.length c2)) _ HRG0x.out Try.underlying27 rfl (by kernel_rfl) ?_)) | ((with_reducible refine gate_ (.store 27 (.tmp 10) (.tmp 75)) rfl ?_); (refine store_row_F rfl rfl 27 (.tmp 10) (.tmp 75) rfl wr.heap.size #[.int .i64 p.kind,.int .u32 p.mine,.int .u32 p.boot,.int .u32 p.yours,.int .u32 p.seq,.int .u32 p.ack,.int .u32 p.stamp,.int .u32 p.echo,.complex .f64 p.zr p.zi,.slice A2 p.body.length c2] rfl rfl 27 _ HZ0.out (by kernel_rfl) rfl (by kernel_rfl) ?_); (intro w8 hb8 hat8); (have HB8:=Lib.hid hb8); (have HBL8:=Lib.hid (hat8.below ((Below.refl wr.heap.size wr).alloc (Nat.le_refl _) _) (Nat.le_refl _))); (clear hb8 hat8)))
   have hbd:=bl_drew HBL8.out
   have hSS:w8.drew.heap[gp]? = some (.cells (prow Yi ge lv wv) 143 (0,0)) ∧ w8.drew.heap[wr.heap.size]? = some (.cells #[.int .i64 p.kind,.int .u32 p.mine,.int .u32 p.boot,.int .u32 p.yours,.int .u32 p.seq,.int .u32 p.ack,.int .u32 p.stamp,.int .u32 p.echo,.complex .f64 p.zr p.zi,.slice A2 p.body.length c2] 27 (0,0)):=⟨(HP0x.out.sub hbd).blk,HB8.out⟩
   clear HB8 HBL8
   refine start_ (n:=13) (S:=fun w' => w'.heap[gp]? = some (.cells (prow Yi ge lv wv) 143 (0,0)) ∧ w'.heap[wr.heap.size]? = some (.cells #[.int .i64 p.kind,.int .u32 p.mine,.int .u32 p.boot,.int .u32 p.yours,.int .u32 p.seq,.int .u32 p.ack,.int .u32 p.stamp,.int .u32 p.echo,.complex .f64 p.zr p.zi,.slice A2 p.body.length c2] 27 (0,0))) (ds:=[12]) M0E (by kernel_rfl) rfl rfl (hSS) (fun hHeld => ?_)
   generalize w8.drew = w9 at hbd hHeld ⊢
   have HBD:=Lib.hid hbd
   clear hbd
   refine pure_ (i:=0) (N:=some 76) (v:=?_) (a':=?_) M0F rfl rfl (by kernel_rfl) (fun _ _ _ h => h) (Or.inl ⟨by rfl,?_⟩) ?_ ?_
   rotate_left
   ·intro w'
    go_simp
    with_reducible rfl
   rotate_left
   ·simp only [Act.put,sA,sZ,sS]
    rfl
   refine pure_ (i:=1) (N:=some 77) (v:=?_) (a':=?_) M0G rfl rfl (by kernel_rfl) (fun _ _ _ h => h) (Or.inl ⟨by rfl,?_⟩) ?_ ?_
   rotate_left
   ·intro w'
    go_simp
    with_reducible rfl
   rotate_left
   ·simp only [Act.put,sA,sZ,sS]
    rfl
   refine pure_ (i:=2) (N:=some 78) (v:=?_) (a':=?_) M0H rfl rfl (by kernel_rfl) (fun _ _ _ h => h) (Or.inl ⟨by rfl,?_⟩) ?_ ?_
   rotate_left
   ·intro w'
    go_simp
    rfl
   rotate_left
   ·simp only [Act.put,sA,sZ,sS]
    rfl
   refine pure_ (i:=3) (N:=some 79) (v:=?_) (a':=?_) M0I rfl rfl (by kernel_rfl) (fun _ _ _ h => h) (Or.inl ⟨by rfl,?_⟩) ?_ ?_
   rotate_left
   ·intro w'
    go_simp
    with_reducible rfl
   rotate_left
   ·simp only [Act.put,sA,sZ,sS]
    rfl
   refine pure_ (i:=4) (N:=some 80) (v:=?_) (a':=?_) M0J rfl rfl (by kernel_rfl) (fun _ _ _ h => h) (Or.inl ⟨by rfl,?_⟩) ?_ ?_
   rotate_left
   ·intro w'
    go_simp
    with_reducible rfl
   rotate_left
   ·simp only [Act.put,sA,sZ,sS]
    rfl
   refine pure_ (i:=5) (N:=some 81) (v:=?_) (a':=?_) M0K rfl rfl (by kernel_rfl) (fun _ _ _ h => h) (Or.inl ⟨by rfl,?_⟩) ?_ ?_
   rotate_left
   ·intro w'
    go_simp
    with_reducible rfl
   rotate_left
   ·simp only [Act.put,sA,sZ,sS]
    rfl
   refine pure_ (i:=6) (N:=some 82) (v:=?_) (a':=?_) M0M rfl rfl (by kernel_rfl) (fun _ _ _ h => h) (Or.inl ⟨by rfl,?_⟩) ?_ ?_
   rotate_left
   ·intro w'
    go_simp
    with_reducible rfl
   rotate_left
   ·simp only [Act.put,sA,sZ,sS]
    rfl
   refine pure_ (i:=7) (N:=some 83) (v:=?_) (a':=?_) M0N rfl rfl (by kernel_rfl) (fun _ _ _ h => h) (Or.inl ⟨by rfl,?_⟩) ?_ ?_
   rotate_left
   ·intro w'
    go_simp
    rfl
   rotate_left
   ·simp only [Act.put,sA,sZ,sS]
    rfl
   refine pure_ (i:=8) (N:=some 84) (v:=?_) (a':=?_) M0O rfl rfl (by kernel_rfl) (fun _ _ _ h => h) (Or.inl ⟨by rfl,?_⟩) ?_ ?_
   rotate_left
   ·intro w'
    go_simp
    rfl
   rotate_left
   ·simp only [Act.put,sA,sZ,sS]
    rfl
   refine take_ (i:=9) (N:=some 85) (v:=?_) (a':=?_) M0P rfl rfl (by kernel_rfl) (fun _ _ _ h => h) (Or.inl ⟨by rfl,?_⟩) hHeld ?_ ?_
   rotate_left
   ·intro w' s0
    have hc1:w'.cell? ⟨gp,1,none⟩ = some (.int .u32 b0):=(blk_cell s0.1 1).trans (by rw [← HYB0x.out]; rfl)
    clear s0
    go_simp
    rfl
   rotate_left
   ·simp only [Act.put,sA,sZ,sS]
    rfl
   refine take_ (i:=10) (N:=some 86) (v:=?_) (a':=?_) M0R rfl rfl (by kernel_rfl) (fun _ _ _ h => h) (Or.inl ⟨by rfl,?_⟩) hHeld ?_ ?_
   rotate_left
   ·intro w' s0
    have hu27:=Try.underlying27
    have hd0:w'.cell? ⟨wr.heap.size,0,none⟩ = some (.int .i64 p.kind):=(blk_cell s0.2 0).trans rfl
    have hd1:w'.cell? ⟨wr.heap.size,1,none⟩ = some (.int .u32 p.mine):=(blk_cell s0.2 1).trans rfl
    have hd2:w'.cell? ⟨wr.heap.size,2,none⟩ = some (.int .u32 p.boot):=(blk_cell s0.2 2).trans rfl
    have hd3:w'.cell? ⟨wr.heap.size,3,none⟩ = some (.int .u32 p.yours):=(blk_cell s0.2 3).trans rfl
    have hd4:w'.cell? ⟨wr.heap.size,4,none⟩ = some (.int .u32 p.seq):=(blk_cell s0.2 4).trans rfl
    have hd5:w'.cell? ⟨wr.heap.size,5,none⟩ = some (.int .u32 p.ack):=(blk_cell s0.2 5).trans rfl
    have hd6:w'.cell? ⟨wr.heap.size,6,none⟩ = some (.int .u32 p.stamp):=(blk_cell s0.2 6).trans rfl
    have hd7:w'.cell? ⟨wr.heap.size,7,none⟩ = some (.int .u32 p.echo):=(blk_cell s0.2 7).trans rfl
    have hd8:w'.cell? ⟨wr.heap.size,8,none⟩ = some (.complex .f64 p.zr p.zi):=(blk_cell s0.2 8).trans rfl
    have hd9:w'.cell? ⟨wr.heap.size,9,none⟩ = some (.slice A2 p.body.length c2):=(blk_cell s0.2 9).trans rfl
    clear s0
    go_simp
    try rfl
   rotate_left
   ·simp only [Act.put,sA,sZ,sS]
    rfl
   refine pure_ (i:=11) (N:=some 87) (v:=?_) (a':=?_) M0T rfl rfl (by kernel_rfl) (fun _ _ _ h => h) (Or.inl ⟨by rfl,?_⟩) ?_ ?_
   rotate_left
   ·intro w'
    go_simp
    rfl
   rotate_left
   ·simp only [Act.put,sA,sZ,sS]
    rfl
   refine last_ (i:=12) (N:=some 88) M0U rfl rfl (by kernel_rfl) (by decide) (fun K hK => ?_)
   refine goes_ Try.func83 (by kernel_rfl) rfl #[.pointer (some ⟨gp,0,none⟩),.agg #[.int .i64 1,.int .u32 b0,.int .i64 p.kind,.int .u32 p.mine,.int .u32 p.boot,.int .u32 p.yours,.int .u32 p.seq,.int .u32 p.ack,.int .u32 p.stamp,.int .u32 p.echo,.complex .f64 p.zr p.zi,.slice A2 p.body.length c2]] (by rfl) rfl rfl (by (try simp only [List.map_toArray,List.map_cons,List.map_nil]); first | done | rfl) ?_
   have hc9:=PL.put (s:=0) (b:=(Y.sd 0).boot) (b0:=b0) (p:=p) (A2:=A2) (c2:=c2) (1:Int) (by decide) (by have:=HN0.out; have:=HLT0x.out; omega) HYI0x.out HPP0x.out HB00x.out HP0x.out HU0x.out HX0x.out HR0x.out HK0x.out HB0x.out HBD.out HYW0x.out HRB0x.out
   (with_reducible refine hc9.mono ?_)
   clear hc9
   rintro e w10 ⟨rfl,hst⟩
   refine ⟨_,rfl,?_⟩
   have HST:=Lib.hid hst
   clear hst hHeld
   refine hK.out _ _ ?_
   clear hK K
   refine done_ (by kernel_rfl) ?_
   go_wp2_with fail
   go_roundg (n0 - (i + 1))
   case measure => have:=HM0.out; have:=HN0.out; have:=HLT0x.out; omega
   case rel => exact ⟨i + 1,rfl,by have:=HN0.out; have:=HLT0x.out; omega,by first | rfl | simp,HST.out⟩
  ·have hd:decide ((i:Int) < (n0:Int)) = false:=by simp; omega
   have hie:i = n0:=by have:=HIN0.out; omega
   subst hie
   have hfin:=HF0.out
   have HWn0:Hid (WTurn w B gp U (pumpX Y 0) wr):=Lib.hid (by have hx:=HN0.out; rw [← hx] at hfin; exact PL.end_ hfin)
   clear hfin hlt
   go_wp2_with fail
   obtain ⟨⟨ge1,own1,lv1,wv1,hP,hU⟩,hk,hb⟩:=HWn0.out
   have hce1:wr.cell? ⟨gp,9,none⟩ = some (.pointer (some ⟨ge1 1,0,none⟩)):=(blk_cell hP.blk 9).trans rfl
   have HP1:=Lib.hid hP
   have HU1:=Lib.hid hU
   have HK1:=Lib.hid hk
   have HB1:=Lib.hid hb
   clear hP hU hk hb
   rw [rounds_succ]
   go_wp2_with (go_at_call 32; (have hc:=out_fine' (HP1.out.e 1 (by decide))); (with_reducible refine hc.mono ?_); clear hc; rintro e wo1 ⟨o1,okx,own',rfl,hE,ho,hR,hx,hkp,hz,hb,hg⟩; (obtain ⟨A11,c11,ho1⟩:=Kd.R_slice hR); subst ho1; (have HL1:=Lib.hid (PL.start (s:=1) (by decide) HP1.out HU1.out HK1.out HB1.out hE ho hR hx hkp hz hb hg)); (clear hE ho hR hx hkp hz hb hg))
   have hnb1:=HOY1.out
   generalize hnl1:((pumpX Y 0).sd 1).end_.out.length = n1 at *
   have HN1:=Lib.hid hnl1
   clear hnl1 hce1
   go_loopg [72] n1 (fun m v wr => ∃ i:Nat,m = n1 - i ∧ i ≤ n1 ∧ v = .int .i64 (i:Int) ∧ PL w B gp U ((pumpX Y 0).set 1 { (pumpX Y 0).sd 1 with end_:=outL ((pumpX Y 0).sd 1).end_ }) 1 ((pumpX Y 0).sd 1).boot (.slice A11 n1 c11) ((pumpX Y 0).sd 1).end_.out i wr)
   case atStart => exact ⟨0,rfl,Nat.zero_le _,rfl,HL1.out⟩
   case round =>
    obtain ⟨i,hm,hin,rfl,hF⟩:=hrel
    have HM1:=Lib.hid hm
    have HIN1:=Lib.hid hin
    have HF1:=Lib.hid hF
    clear hm hin hF
    by_cases hlt:(i:Int) < (n1:Int)
    ·have hd:decide ((i:Int) < (n1:Int)) = true:=by simp [hlt]
     have hsz:=HF1.out.size
     have HSZ:=Lib.hid hsz
     clear hsz
     obtain ⟨ge,own,lv,wv,okx,hP,hU,hx,hR,hk,hb⟩:=HF1.out
     obtain ⟨gx,cs,hA1,hM,hrg,hcl,hnp⟩:=pkt_elem hR i (by omega)
     subst hA1
     obtain ⟨b2,hb2,hRB⟩:=pkt_M.1 hM
     subst hb2
     obtain ⟨A2,c2,hb3⟩:=Kd.R_slice hRB
     subst hb3
     obtain ⟨Yi,hYi⟩:∃ Yi,Yi = putsX ((pumpX Y 0).set 1 { (pumpX Y 0).sd 1 with end_:=outL ((pumpX Y 0).sd 1).end_ }) ((1:Nat):Int) ((pumpX Y 0).sd 1).boot (((pumpX Y 0).sd 1).end_.out.take i):=⟨_,rfl⟩
     rw [← hYi] at hP
     obtain ⟨b0,hb0⟩:∃ b0,b0 = ((pumpX Y 0).sd 1).boot:=⟨_,rfl⟩
     have hYb:(Yi.sd 1).boot = b0:=by rw [hYi,putsX_sd,hb0]; rfl
     have hYw:Yi.way.length ≤ 1024:=by rw [hYi]; exact putsX_way _ _ _ _ HWY1.out
     obtain ⟨p,hp⟩:∃ p,p = ((pumpX Y 0).sd 1).end_.out.getD i nilP:=⟨_,rfl⟩
     rw [← hp] at hRB hrg hcl hM
     have HP1x:=Lib.hid hP
     have HU1x:=Lib.hid hU
     have HX1x:=Lib.hid hx
     have HR1x:=Lib.hid hR
     have HK1x:=Lib.hid hk
     have HB1x:=Lib.hid hb
     have HRB1x:=Lib.hid hRB
     have HRG1x:=Lib.hid hrg
     have HYI1x:=Lib.hid hYi
     have HB01x:=Lib.hid hb0
     have HYB1x:=Lib.hid hYb
     have HYW1x:=Lib.hid hYw
     have HPP1x:=Lib.hid hp
     have HLT1x:=Lib.hid hlt
     clear hP hU hx hR hk hb hRB hrg hcl hM hYi hb0 hYb hYw hp hnp hlt
     have hlt:i < n1:=by have:=HLT1x.out; omega
     have HZ1:=Lib.hid (heap_alloc_new wr (.cells #[.int .i64 0,.int .u32 0,.int .u32 0,.int .u32 0,.int .u32 0,.int .u32 0,.int .u32 0,.int .u32 0,.complex .f64 0 0,.slice none 0 0] 27))
     go_wp2_with (first | ((with_reducible refine gate_dst (N:=75) rfl ?_); (refine wpList_load_mid rfl 27 (.tmp 74) rfl gx (i * 10) (by first | rfl | (simp; done)) (cells p (.slice A2 p.body.length c2)) _ HRG1x.out Try.underlying27 rfl (by kernel_rfl) ?_)) | ((with_reducible refine gate_ (.store 27 (.tmp 10) (.tmp 75)) rfl ?_); (refine store_row_F rfl rfl 27 (.tmp 10) (.tmp 75) rfl wr.heap.size #[.int .i64 p.kind,.int .u32 p.mine,.int .u32 p.boot,.int .u32 p.yours,.int .u32 p.seq,.int .u32 p.ack,.int .u32 p.stamp,.int .u32 p.echo,.complex .f64 p.zr p.zi,.slice A2 p.body.length c2] rfl rfl 27 _ HZ1.out (by kernel_rfl) rfl (by kernel_rfl) ?_); (intro w8 hb8 hat8); (have HB8:=Lib.hid hb8); (have HBL8:=Lib.hid (hat8.below ((Below.refl wr.heap.size wr).alloc (Nat.le_refl _) _) (Nat.le_refl _))); (clear hb8 hat8)))
     have hbd:=bl_drew HBL8.out
     have hSS:w8.drew.heap[gp]? = some (.cells (prow Yi ge lv wv) 143 (0,0)) ∧ w8.drew.heap[wr.heap.size]? = some (.cells #[.int .i64 p.kind,.int .u32 p.mine,.int .u32 p.boot,.int .u32 p.yours,.int .u32 p.seq,.int .u32 p.ack,.int .u32 p.stamp,.int .u32 p.echo,.complex .f64 p.zr p.zi,.slice A2 p.body.length c2] 27 (0,0)):=⟨(HP1x.out.sub hbd).blk,HB8.out⟩
     clear HB8 HBL8
     refine start_ (n:=13) (S:=fun w' => w'.heap[gp]? = some (.cells (prow Yi ge lv wv) 143 (0,0)) ∧ w'.heap[wr.heap.size]? = some (.cells #[.int .i64 p.kind,.int .u32 p.mine,.int .u32 p.boot,.int .u32 p.yours,.int .u32 p.seq,.int .u32 p.ack,.int .u32 p.stamp,.int .u32 p.echo,.complex .f64 p.zr p.zi,.slice A2 p.body.length c2] 27 (0,0))) (ds:=[12]) M0E (by kernel_rfl) rfl rfl (hSS) (fun hHeld => ?_)
     generalize w8.drew = w9 at hbd hHeld ⊢
     have HBD:=Lib.hid hbd
     clear hbd
     refine pure_ (i:=0) (N:=some 76) (v:=?_) (a':=?_) M0F rfl rfl (by kernel_rfl) (fun _ _ _ h => h) (Or.inl ⟨by rfl,?_⟩) ?_ ?_
     rotate_left
     ·intro w'
      go_simp
      with_reducible rfl
     rotate_left
     ·simp only [Act.put,sA,sZ,sS]
      rfl
     refine pure_ (i:=1) (N:=some 77) (v:=?_) (a':=?_) M0G rfl rfl (by kernel_rfl) (fun _ _ _ h => h) (Or.inl ⟨by rfl,?_⟩) ?_ ?_
     rotate_left
     ·intro w'
      go_simp
      with_reducible rfl
     rotate_left
     ·simp only [Act.put,sA,sZ,sS]
      rfl
     refine pure_ (i:=2) (N:=some 78) (v:=?_) (a':=?_) M0H rfl rfl (by kernel_rfl) (fun _ _ _ h => h) (Or.inl ⟨by rfl,?_⟩) ?_ ?_
     rotate_left
     ·intro w'
      go_simp
      rfl
     rotate_left
     ·simp only [Act.put,sA,sZ,sS]
      rfl
     refine pure_ (i:=3) (N:=some 79) (v:=?_) (a':=?_) M0I rfl rfl (by kernel_rfl) (fun _ _ _ h => h) (Or.inl ⟨by rfl,?_⟩) ?_ ?_
     rotate_left
     ·intro w'
      go_simp
      with_reducible rfl
     rotate_left
     ·simp only [Act.put,sA,sZ,sS]
      rfl
     refine pure_ (i:=4) (N:=some 80) (v:=?_) (a':=?_) M0J rfl rfl (by kernel_rfl) (fun _ _ _ h => h) (Or.inl ⟨by rfl,?_⟩) ?_ ?_
     rotate_left
     ·intro w'
      go_simp
      with_reducible rfl
     rotate_left
     ·simp only [Act.put,sA,sZ,sS]
      rfl
     refine pure_ (i:=5) (N:=some 81) (v:=?_) (a':=?_) M0K rfl rfl (by kernel_rfl) (fun _ _ _ h => h) (Or.inl ⟨by rfl,?_⟩) ?_ ?_
     rotate_left
     ·intro w'
      go_simp
      with_reducible rfl
     rotate_left
     ·simp only [Act.put,sA,sZ,sS]
      rfl
     refine pure_ (i:=6) (N:=some 82) (v:=?_) (a':=?_) M0M rfl rfl (by kernel_rfl) (fun _ _ _ h => h) (Or.inl ⟨by rfl,?_⟩) ?_ ?_
     rotate_left
     ·intro w'
      go_simp
      with_reducible rfl
     rotate_left
     ·simp only [Act.put,sA,sZ,sS]
      rfl
     refine pure_ (i:=7) (N:=some 83) (v:=?_) (a':=?_) M0N rfl rfl (by kernel_rfl) (fun _ _ _ h => h) (Or.inl ⟨by rfl,?_⟩) ?_ ?_
     rotate_left
     ·intro w'
      go_simp
      rfl
     rotate_left
     ·simp only [Act.put,sA,sZ,sS]
      rfl
     refine pure_ (i:=8) (N:=some 84) (v:=?_) (a':=?_) M0O rfl rfl (by kernel_rfl) (fun _ _ _ h => h) (Or.inl ⟨by rfl,?_⟩) ?_ ?_
     rotate_left
     ·intro w'
      go_simp
      rfl
     rotate_left
     ·simp only [Act.put,sA,sZ,sS]
      rfl
     refine take_ (i:=9) (N:=some 85) (v:=?_) (a':=?_) M0P rfl rfl (by kernel_rfl) (fun _ _ _ h => h) (Or.inl ⟨by rfl,?_⟩) hHeld ?_ ?_
     rotate_left
     ·intro w' s0
      have hc1:w'.cell? ⟨gp,10,none⟩ = some (.int .u32 b0):=(blk_cell s0.1 10).trans (by rw [← HYB1x.out]; rfl)
      clear s0
      go_simp
      rfl
     rotate_left
     ·simp only [Act.put,sA,sZ,sS]
      rfl
     refine take_ (i:=10) (N:=some 86) (v:=?_) (a':=?_) M0R rfl rfl (by kernel_rfl) (fun _ _ _ h => h) (Or.inl ⟨by rfl,?_⟩) hHeld ?_ ?_
     rotate_left
     ·intro w' s0
      have hu27:=Try.underlying27
      have hd0:w'.cell? ⟨wr.heap.size,0,none⟩ = some (.int .i64 p.kind):=(blk_cell s0.2 0).trans rfl
      have hd1:w'.cell? ⟨wr.heap.size,1,none⟩ = some (.int .u32 p.mine):=(blk_cell s0.2 1).trans rfl
      have hd2:w'.cell? ⟨wr.heap.size,2,none⟩ = some (.int .u32 p.boot):=(blk_cell s0.2 2).trans rfl
      have hd3:w'.cell? ⟨wr.heap.size,3,none⟩ = some (.int .u32 p.yours):=(blk_cell s0.2 3).trans rfl
      have hd4:w'.cell? ⟨wr.heap.size,4,none⟩ = some (.int .u32 p.seq):=(blk_cell s0.2 4).trans rfl
      have hd5:w'.cell? ⟨wr.heap.size,5,none⟩ = some (.int .u32 p.ack):=(blk_cell s0.2 5).trans rfl
      have hd6:w'.cell? ⟨wr.heap.size,6,none⟩ = some (.int .u32 p.stamp):=(blk_cell s0.2 6).trans rfl
      have hd7:w'.cell? ⟨wr.heap.size,7,none⟩ = some (.int .u32 p.echo):=(blk_cell s0.2 7).trans rfl
      have hd8:w'.cell? ⟨wr.heap.size,8,none⟩ = some (.complex .f64 p.zr p.zi):=(blk_cell s0.2 8).trans rfl
      have hd9:w'.cell? ⟨wr.heap.size,9,none⟩ = some (.slice A2 p.body.length c2):=(blk_cell s0.2 9).trans rfl
      clear s0
      go_simp
      try rfl
     rotate_left
     ·simp only [Act.put,sA,sZ,sS]
      rfl
     refine pure_ (i:=11) (N:=some 87) (v:=?_) (a':=?_) M0T rfl rfl (by kernel_rfl) (fun _ _ _ h => h) (Or.inl ⟨by rfl,?_⟩) ?_ ?_
     rotate_left
     ·intro w'
      go_simp
      rfl
     rotate_left
     ·simp only [Act.put,sA,sZ,sS]
      rfl
     refine last_ (i:=12) (N:=some 88) M0U rfl rfl (by kernel_rfl) (by decide) (fun K hK => ?_)
     refine goes_ Try.func83 (by kernel_rfl) rfl #[.pointer (some ⟨gp,0,none⟩),.agg #[.int .i64 0,.int .u32 b0,.int .i64 p.kind,.int .u32 p.mine,.int .u32 p.boot,.int .u32 p.yours,.int .u32 p.seq,.int .u32 p.ack,.int .u32 p.stamp,.int .u32 p.echo,.complex .f64 p.zr p.zi,.slice A2 p.body.length c2]] (by rfl) rfl rfl (by (try simp only [List.map_toArray,List.map_cons,List.map_nil]); first | done | rfl) ?_
     have hc9:=PL.put (s:=1) (b:=((pumpX Y 0).sd 1).boot) (b0:=b0) (p:=p) (A2:=A2) (c2:=c2) (0:Int) (by decide) (by have:=HN1.out; have:=HLT1x.out; omega) HYI1x.out HPP1x.out HB01x.out HP1x.out HU1x.out HX1x.out HR1x.out HK1x.out HB1x.out HBD.out HYW1x.out HRB1x.out
     (with_reducible refine hc9.mono ?_)
     clear hc9
     rintro e w10 ⟨rfl,hst⟩
     refine ⟨_,rfl,?_⟩
     have HST:=Lib.hid hst
     clear hst hHeld
     refine hK.out _ _ ?_
     clear hK K
     refine done_ (by kernel_rfl) ?_
     go_wp2_with fail
     go_roundg (n1 - (i + 1))
     case measure => have:=HM1.out; have:=HN1.out; have:=HLT1x.out; omega
     case rel => exact ⟨i + 1,rfl,by have:=HN1.out; have:=HLT1x.out; omega,by first | rfl | simp,HST.out⟩
    ·have hd:decide ((i:Int) < (n1:Int)) = false:=by simp; omega
     have hie:i = n1:=by have:=HIN1.out; omega
     subst hie
     have hfin:=HF1.out
     have HWn1:Hid (WTurn w B gp U (pumpX (pumpX Y 0) 1) wr):=Lib.hid (by have hx:=HN1.out; rw [← hx] at hfin; exact PL.end_ hfin)
     clear hfin hlt
     go_wp2_with fail
     rw [rounds_succ]
     go_wp2_with fail
     all_goals (go_ret; exact ⟨rfl,HWn1.out⟩)
set_option maxRecDepth 100000 in
set_option maxHeartbeats 4000000 in
theorem do_b {w : World} {B gp : Nat} {ge : Nat → Nat} {own : Nat → Nat → Prop} {X Y : Pr} {lv : Nat → Value} {wv : Value} {U : Nat → Prop} (h : PAt w B gp ge own X lv wv) (kind : Int) (side : Int) (j : Nat) (hg1 : ¬ kind < 6) (hj : j < X.way.length) (Ab : Option Addr) (nb cb : Nat) (fn : FuncId) (f : Func) (hfn : Try.prog.funcs[fn]? = some f) (hnm : (f.name == "runtime.NumGoroutine") = false) (hbs : f.body.isSome = true) (E : Int)
  (hlook:∀ (W:World) (r:Nat),W.heap[r]? = some (.map actsE8 8) → (Instr.lookup 146 (.map (some r)) (.int .i64 kind) true).run Try.prog W = .ok (.tuple #[.func (.func fn) #[] #[],.bool true]) W)
  (hcall:∀ w':World,Below w.heap.size w w' → Calls Try.prog fn #[.pointer (some ⟨gp,0,none⟩),.agg #[.int .i64 kind,.int .i64 side,.int .i64 (j:Int),.slice Ab nb cb]] w' fun e w'' => e = .returned (.int .i64 E) ∧ WTurn w' B gp U Y w'')
  (hoy:∀ s,s < 2 → (Y.sd s).end_.Ok) (hwy:Y.way.length ≤ 1024) :
  Calls Try.prog 41 #[.pointer (some ⟨gp,0,none⟩),.agg #[.int .i64 kind,.int .i64 side,.int .i64 (j:Int),.slice Ab nb cb]] w fun e w' => e = .returned (.int .i64 E) ∧ WTurn w B gp U (pumpX (pumpX Y 0) 1) w':=by
 have hba:Below w.heap.size w (w.alloc (.cells #[.int .i64 kind,.int .i64 side,.int .i64 (j:Int),.slice Ab nb cb] 72)):=(Below.refl _ _).alloc (Nat.le_refl _) _
 have hSS:(w.alloc (.cells #[.int .i64 kind,.int .i64 side,.int .i64 (j:Int),.slice Ab nb cb] 72)).drew.heap[w.heap.size]? = some (.cells #[.int .i64 kind,.int .i64 side,.int .i64 (j:Int),.slice Ab nb cb] 72 (0,0)):=heap_alloc_new w _
 obtain ⟨Aw,cw,_,hwv,_⟩:=h.way.reads
 subst hwv
 have HSS:=Lib.hid hSS
 have HBD0:=Lib.hid (bl_drew hba)
 have H:=Lib.hid h
 have HFN:=Lib.hid hfn
 have HNM:=Lib.hid hnm
 have HBS:=Lib.hid hbs
 have HLOOK:=Lib.hid hlook
 have HCALL:=Lib.hid hcall
 have HOY0:=Lib.hid (hoy 0 (by decide)).out
 have hoy1:(pumpX Y 0).sd 1 = Y.sd 1:=by show (putsX _ _ _ _).sd 1 = _; rw [putsX_sd]; rfl
 have HOY1:Hid (((pumpX Y 0).sd 1).end_.out.length ≤ _):=Lib.hid (by rw [hoy1]; exact (hoy 1 (by decide)).out)
 have HWY0:=Lib.hid hwy
 have HWY1:Hid ((pumpX Y 0).way.length ≤ 1024):=Lib.hid (putsX_way _ _ _ _ hwy)
 have HJ:=Lib.hid hj
 clear h hba hSS hfn hnm hbs hlook hcall hoy hoy1 hwy
 go_enter Try.func41,Try.ntmps41
 go_wp2_with fail
 have hSS:=HSS.out
 have hbd:=HBD0.out
 clear HSS HBD0
 refine start_ (n:=9) (S:=fun w' => w'.heap[w.heap.size]? = some (.cells #[.int .i64 kind,.int .i64 side,.int .i64 (j:Int),.slice Ab nb cb] 72 (0,0))) (ds:=[]) M0L (by kernel_rfl) rfl rfl (hSS) (fun hHeld => ?_)
 generalize (w.alloc (.cells #[.int .i64 kind,.int .i64 side,.int .i64 (j:Int),.slice Ab nb cb] 72)).drew = w2 at hbd hHeld ⊢
 have HBD:=Lib.hid hbd
 clear hbd
 refine pure_ (i:=1) (N:=some 15) (v:=?_) (a':=?_) M17 rfl rfl (by kernel_rfl) (fun _ _ _ h => h) (Or.inl ⟨by rfl,?_⟩) ?_ ?_
 rotate_left
 ·intro w'
  go_simp
  with_reducible rfl
 rotate_left
 ·simp only [Act.put,sA,sZ,sS]
  rfl
 refine take_ (i:=2) (N:=some 16) (v:=?_) (a':=?_) M18 rfl rfl (by kernel_rfl) (fun _ _ _ h => h) (Or.inl ⟨by rfl,?_⟩) hHeld ?_ ?_
 rotate_left
 ·intro w' s0
  have hc0:w'.cell? ⟨w.heap.size,0,none⟩ = some (.int .i64 kind):=(blk_cell s0 0).trans rfl
  clear s0
  go_simp
  with_reducible rfl
 rotate_left
 ·simp only [Act.put,sA,sZ,sS]
  rfl
 refine one_ (i:=0) (N:=some 14) M0Q rfl rfl (by kernel_rfl) (by decide) (fun K hK => ?_)
 refine goes_ Try.func82 (by kernel_rfl) rfl #[] (by rfl) rfl rfl (by (try simp only [List.map_toArray,List.map_cons,List.map_nil]); first | done | rfl) ?_
 refine (acts_of w2).mono ?_
 rintro e w3 ⟨rfl,hmap,hb3⟩
 refine ⟨_,rfl,?_⟩
 have hS3:w3.heap[w.heap.size]? = some (.cells #[.int .i64 kind,.int .i64 side,.int .i64 (j:Int),.slice Ab nb cb] 72 (0,0)):=(hb3.block _ (blk_lt hHeld)).trans hHeld
 have HMAP:=Lib.hid hmap
 have HB3:=Lib.hid (HBD.out.trans (hb3.mono HBD.out.size))
 have HS3:=Lib.hid hS3
 generalize w2.heap.size = gm at *
 clear hmap hb3 hHeld
 refine hK.out _ _ hS3 (fun hHeld => ?_)
 clear hK K hS3
 refine norm_ (a':=?_) ?_ ?_
 rotate_left
 ·show Act.put _ (some 14) _ = _
  simp only [Act.put,sA,sZ,sS]
  rfl
 refine one_ (i:=3) (N:=some 17) M0S rfl rfl (by kernel_rfl) (by decide) (fun K hK => ?_)
 have hlk:=HLOOK.out w3 gm HMAP.out
 refine value_ (v:=.tuple #[.func (.func fn) #[] #[],.bool true]) (by rfl) rfl (w1:=w3) (by first | (go_simp; done) | (go_simp; rfl)) ?_
 clear hlk
 refine hK.out _ _ hHeld (fun hHeld => ?_)
 clear hK K
 refine norm_ (a':=?_) ?_ ?_
 rotate_left
 ·show Act.put _ (some 17) _ = _
  simp only [Act.put,sA,sZ,sS]
  rfl
 refine pure_ (i:=4) (N:=some 13) (v:=?_) (a':=?_) M0V rfl rfl (by kernel_rfl) (fun _ _ _ h => h) (Or.inl ⟨by rfl,?_⟩) ?_ ?_
 rotate_left
 ·intro w'
  go_simp
  with_reducible rfl
 rotate_left
 ·simp only [Act.put,sA,sZ,sS]
  rfl
 refine pure_ (i:=5) (N:=some 18) (v:=?_) (a':=?_) M0X rfl rfl (by kernel_rfl) (fun _ _ _ h => h) (Or.inl ⟨by rfl,?_⟩) ?_ ?_
 rotate_left
 ·intro w'
  go_simp
  with_reducible rfl
 rotate_left
 ·simp only [Act.put,sA,sZ,sS]
  rfl
 refine pure_ (i:=6) (N:=some 19) (v:=?_) (a':=?_) M10 rfl rfl (by kernel_rfl) (fun _ _ _ h => h) (Or.inl ⟨by rfl,?_⟩) ?_ ?_
 rotate_left
 ·intro w'
  go_simp
  with_reducible rfl
 rotate_left
 ·simp only [Act.put,sA,sZ,sS]
  rfl
 refine pure_ (i:=7) (N:=some 5) (v:=?_) (a':=?_) M11 rfl rfl (by kernel_rfl) (fun _ _ _ h => h) (Or.inl ⟨by rfl,?_⟩) ?_ ?_
 rotate_left
 ·intro w'
  go_simp
  with_reducible rfl
 rotate_left
 ·simp only [Act.put,sA,sZ,sS]
  rfl
 refine pure_ (i:=8) (N:=some 6) (v:=?_) (a':=?_) M12 rfl rfl (by kernel_rfl) (fun _ _ _ h => h) (Or.inl ⟨by rfl,?_⟩) ?_ ?_
 rotate_left
 ·intro w'
  go_simp
  with_reducible rfl
 rotate_left
 ·simp only [Act.put,sA,sZ,sS]
  rfl
 refine done_ (by kernel_rfl) ?_
 clear hHeld
 have hk0:w3.cell? ⟨w.heap.size,0,none⟩ = some (.int .i64 kind):=(blk_cell HS3.out 0).trans rfl
 have hk1:w3.cell? ⟨w.heap.size,1,none⟩ = some (.int .i64 side):=(blk_cell HS3.out 1).trans rfl
 have hk2:w3.cell? ⟨w.heap.size,2,none⟩ = some (.int .i64 (j:Int)):=(blk_cell HS3.out 2).trans rfl
 have hk3:w3.cell? ⟨w.heap.size,3,none⟩ = some (.slice Ab nb cb):=(blk_cell HS3.out 3).trans rfl
 have hw18:w3.cell? ⟨gp,18,none⟩ = some (.slice Aw X.way.length cw):=(blk_cell (H.out.sub HB3.out).blk 18).trans rfl
 have hg6:decide (kind < 6) = false:=by simp [hg1]
 have hg7:decide (kind ≥ 6) = true:=by simp; omega
 have hj0:decide ((j:Int) < 0) = false:=by simp
 have hj2:=HJ.out
 have hj1:decide ((j:Int) ≥ (X.way.length:Int)) = false:=by simp; omega
 clear hj2
 go_wp2_with fail
 go_quiet (fail)
 rename Nat => nq1
 have hu72:=Try.underlying72
 go_wp2_with (rw [enters_ HFN.out HNM.out HBS.out,Oper.upon_enter]; (refine (HCALL.out (w3.drewN nq1) (bl_drewN HB3.out nq1)).mono ?_); (rintro e w6 ⟨rfl,hT⟩); (have HW6:=Lib.hid (WTurn.from_ H.out.hB (bl_drewN HB3.out nq1) hT)); (clear hT))
 refine wp_loop_rounds 3 ?_
 obtain ⟨⟨ge0,own0,lv0,wv0,hP,hU⟩,hk,hb⟩:=HW6.out
 have hce0:w6.cell? ⟨gp,0,none⟩ = some (.pointer (some ⟨ge0 0,0,none⟩)):=(blk_cell hP.blk 0).trans rfl
 have HP0:=Lib.hid hP
 have HU0:=Lib.hid hU
 have HK0:=Lib.hid hk
 have HB0:=Lib.hid hb
 clear hP hU hk hb
 rw [rounds_succ]
 go_wp2_with (go_at_call 32; (have hc:=out_fine' (HP0.out.e 0 (by decide))); (with_reducible refine hc.mono ?_); clear hc; rintro e wo0 ⟨o1,okx,own',rfl,hE,ho,hR,hx,hkp,hz,hb,hg⟩; (obtain ⟨A10,c10,ho1⟩:=Kd.R_slice hR); subst ho1; (have HL0:=Lib.hid (PL.start (s:=0) (by decide) HP0.out HU0.out HK0.out HB0.out hE ho hR hx hkp hz hb hg)); (clear hE ho hR hx hkp hz hb hg))
 have hnb0:=HOY0.out
 generalize hnl0:(Y.sd 0).end_.out.length = n0 at *
 have HN0:=Lib.hid hnl0
 clear hnl0 hce0
 go_loopg [72] n0 (fun m v wr => ∃ i:Nat,m = n0 - i ∧ i ≤ n0 ∧ v = .int .i64 (i:Int) ∧ PL w B gp U (Y.set 0 { Y.sd 0 with end_:=outL (Y.sd 0).end_ }) 0 (Y.sd 0).boot (.slice A10 n0 c10) (Y.sd 0).end_.out i wr)
 case atStart => exact ⟨0,rfl,Nat.zero_le _,rfl,HL0.out⟩
 case round =>
  obtain ⟨i,hm,hin,rfl,hF⟩:=hrel
  have HM0:=Lib.hid hm
  have HIN0:=Lib.hid hin
  have HF0:=Lib.hid hF
  clear hm hin hF
  by_cases hlt:(i:Int) < (n0:Int)
  ·have hd:decide ((i:Int) < (n0:Int)) = true:=by simp [hlt]
   have hsz:=HF0.out.size
   have HSZ:=Lib.hid hsz
   clear hsz
   obtain ⟨ge,own,lv,wv,okx,hP,hU,hx,hR,hk,hb⟩:=HF0.out
   obtain ⟨gx,cs,hA1,hM,hrg,hcl,hnp⟩:=pkt_elem hR i (by omega)
   subst hA1
   obtain ⟨b2,hb2,hRB⟩:=pkt_M.1 hM
   subst hb2
   obtain ⟨A2,c2,hb3⟩:=Kd.R_slice hRB
   subst hb3
   obtain ⟨Yi,hYi⟩:∃ Yi,Yi = putsX (Y.set 0 { Y.sd 0 with end_:=outL (Y.sd 0).end_ }) ((0:Nat):Int) (Y.sd 0).boot ((Y.sd 0).end_.out.take i):=⟨_,rfl⟩
   rw [← hYi] at hP
   obtain ⟨b0,hb0⟩:∃ b0,b0 = (Y.sd 0).boot:=⟨_,rfl⟩
   have hYb:(Yi.sd 0).boot = b0:=by rw [hYi,putsX_sd,hb0]; rfl
   have hYw:Yi.way.length ≤ 1024:=by rw [hYi]; exact putsX_way _ _ _ _ HWY0.out
   obtain ⟨p,hp⟩:∃ p,p = (Y.sd 0).end_.out.getD i nilP:=⟨_,rfl⟩
   rw [← hp] at hRB hrg hcl hM
   have HP0x:=Lib.hid hP
   have HU0x:=Lib.hid hU
   have HX0x:=Lib.hid hx
   have HR0x:=Lib.hid hR
   have HK0x:=Lib.hid hk
   have HB0x:=Lib.hid hb
   have HRB0x:=Lib.hid hRB
   have HRG0x:=Lib.hid hrg
   have HYI0x:=Lib.hid hYi
   have HB00x:=Lib.hid hb0
   have HYB0x:=Lib.hid hYb
   have HYW0x:=Lib.hid hYw
   have HPP0x:=Lib.hid hp
   have HLT0x:=Lib.hid hlt
   clear hP hU hx hR hk hb hRB hrg hcl hM hYi hb0 hYb hYw hp hnp hlt
   have hlt:i < n0:=by have:=HLT0x.out; omega
   have HZ0:=Lib.hid (heap_alloc_new wr (.cells #[.int .i64 0,.int .u32 0,.int .u32 0,.int .u32 0,.int .u32 0,.int .u32 0,.int .u32 0,.int .u32 0,.complex .f64 0 0,.slice none 0 0] 27))
   go_wp2_with (first | ((with_reducible refine gate_dst (N:=75) rfl ?_); (refine wpList_load_mid rfl 27 (.tmp 74) rfl gx (i * 10) (by first | rfl | (simp; done)) (cells p (.slice A2 p.body.length c2)) _ HRG0x.out Try.underlying27 rfl (by kernel_rfl) ?_)) | ((with_reducible refine gate_ (.store 27 (.tmp 10) (.tmp 75)) rfl ?_); (refine store_row_F rfl rfl 27 (.tmp 10) (.tmp 75) rfl wr.heap.size #[.int .i64 p.kind,.int .u32 p.mine,.int .u32 p.boot,.int .u32 p.yours,.int .u32 p.seq,.int .u32 p.ack,.int .u32 p.stamp,.int .u32 p.echo,.complex .f64 p.zr p.zi,.slice A2 p.body.length c2] rfl rfl 27 _ HZ0.out (by kernel_rfl) rfl (by kernel_rfl) ?_); (intro w8 hb8 hat8); (have HB8:=Lib.hid hb8); (have HBL8:=Lib.hid (hat8.below ((Below.refl wr.heap.size wr).alloc (Nat.le_refl _) _) (Nat.le_refl _))); (clear hb8 hat8)))
   have hbd:=bl_drew HBL8.out
   have hSS:w8.drew.heap[gp]? = some (.cells (prow Yi ge lv wv) 143 (0,0)) ∧ w8.drew.heap[wr.heap.size]? = some (.cells #[.int .i64 p.kind,.int .u32 p.mine,.int .u32 p.boot,.int .u32 p.yours,.int .u32 p.seq,.int .u32 p.ack,.int .u32 p.stamp,.int .u32 p.echo,.complex .f64 p.zr p.zi,.slice A2 p.body.length c2] 27 (0,0)):=⟨(HP0x.out.sub hbd).blk,HB8.out⟩
   clear HB8 HBL8
   refine start_ (n:=13) (S:=fun w' => w'.heap[gp]? = some (.cells (prow Yi ge lv wv) 143 (0,0)) ∧ w'.heap[wr.heap.size]? = some (.cells #[.int .i64 p.kind,.int .u32 p.mine,.int .u32 p.boot,.int .u32 p.yours,.int .u32 p.seq,.int .u32 p.ack,.int .u32 p.stamp,.int .u32 p.echo,.complex .f64 p.zr p.zi,.slice A2 p.body.length c2] 27 (0,0))) (ds:=[12]) M0E (by kernel_rfl) rfl rfl (hSS) (fun hHeld => ?_)
   generalize w8.drew = w9 at hbd hHeld ⊢
   have HBD:=Lib.hid hbd
   clear hbd
   refine pure_ (i:=0) (N:=some 76) (v:=?_) (a':=?_) M0F rfl rfl (by kernel_rfl) (fun _ _ _ h => h) (Or.inl ⟨by rfl,?_⟩) ?_ ?_
   rotate_left
   ·intro w'
    go_simp
    with_reducible rfl
   rotate_left
   ·simp only [Act.put,sA,sZ,sS]
    rfl
   refine pure_ (i:=1) (N:=some 77) (v:=?_) (a':=?_) M0G rfl rfl (by kernel_rfl) (fun _ _ _ h => h) (Or.inl ⟨by rfl,?_⟩) ?_ ?_
   rotate_left
   ·intro w'
    go_simp
    with_reducible rfl
   rotate_left
   ·simp only [Act.put,sA,sZ,sS]
    rfl
   refine pure_ (i:=2) (N:=some 78) (v:=?_) (a':=?_) M0H rfl rfl (by kernel_rfl) (fun _ _ _ h => h) (Or.inl ⟨by rfl,?_⟩) ?_ ?_
   rotate_left
   ·intro w'
    go_simp
    rfl
   rotate_left
   ·simp only [Act.put,sA,sZ,sS]
    rfl
   refine pure_ (i:=3) (N:=some 79) (v:=?_) (a':=?_) M0I rfl rfl (by kernel_rfl) (fun _ _ _ h => h) (Or.inl ⟨by rfl,?_⟩) ?_ ?_
   rotate_left
   ·intro w'
    go_simp
    with_reducible rfl
   rotate_left
   ·simp only [Act.put,sA,sZ,sS]
    rfl
   refine pure_ (i:=4) (N:=some 80) (v:=?_) (a':=?_) M0J rfl rfl (by kernel_rfl) (fun _ _ _ h => h) (Or.inl ⟨by rfl,?_⟩) ?_ ?_
   rotate_left
   ·intro w'
    go_simp
    with_reducible rfl
   rotate_left
   ·simp only [Act.put,sA,sZ,sS]
    rfl
   refine pure_ (i:=5) (N:=some 81) (v:=?_) (a':=?_) M0K rfl rfl (by kernel_rfl) (fun _ _ _ h => h) (Or.inl ⟨by rfl,?_⟩) ?_ ?_
   rotate_left
   ·intro w'
    go_simp
    with_reducible rfl
   rotate_left
   ·simp only [Act.put,sA,sZ,sS]
    rfl
   refine pure_ (i:=6) (N:=some 82) (v:=?_) (a':=?_) M0M rfl rfl (by kernel_rfl) (fun _ _ _ h => h) (Or.inl ⟨by rfl,?_⟩) ?_ ?_
   rotate_left
   ·intro w'
    go_simp
    with_reducible rfl
   rotate_left
   ·simp only [Act.put,sA,sZ,sS]
    rfl
   refine pure_ (i:=7) (N:=some 83) (v:=?_) (a':=?_) M0N rfl rfl (by kernel_rfl) (fun _ _ _ h => h) (Or.inl ⟨by rfl,?_⟩) ?_ ?_
   rotate_left
   ·intro w'
    go_simp
    rfl
   rotate_left
   ·simp only [Act.put,sA,sZ,sS]
    rfl
   refine pure_ (i:=8) (N:=some 84) (v:=?_) (a':=?_) M0O rfl rfl (by kernel_rfl) (fun _ _ _ h => h) (Or.inl ⟨by rfl,?_⟩) ?_ ?_
   rotate_left
   ·intro w'
    go_simp
    rfl
   rotate_left
   ·simp only [Act.put,sA,sZ,sS]
    rfl
   refine take_ (i:=9) (N:=some 85) (v:=?_) (a':=?_) M0P rfl rfl (by kernel_rfl) (fun _ _ _ h => h) (Or.inl ⟨by rfl,?_⟩) hHeld ?_ ?_
   rotate_left
   ·intro w' s0
    have hc1:w'.cell? ⟨gp,1,none⟩ = some (.int .u32 b0):=(blk_cell s0.1 1).trans (by rw [← HYB0x.out]; rfl)
    clear s0
    go_simp
    rfl
   rotate_left
   ·simp only [Act.put,sA,sZ,sS]
    rfl
   refine take_ (i:=10) (N:=some 86) (v:=?_) (a':=?_) M0R rfl rfl (by kernel_rfl) (fun _ _ _ h => h) (Or.inl ⟨by rfl,?_⟩) hHeld ?_ ?_
   rotate_left
   ·intro w' s0
    have hu27:=Try.underlying27
    have hd0:w'.cell? ⟨wr.heap.size,0,none⟩ = some (.int .i64 p.kind):=(blk_cell s0.2 0).trans rfl
    have hd1:w'.cell? ⟨wr.heap.size,1,none⟩ = some (.int .u32 p.mine):=(blk_cell s0.2 1).trans rfl
    have hd2:w'.cell? ⟨wr.heap.size,2,none⟩ = some (.int .u32 p.boot):=(blk_cell s0.2 2).trans rfl
    have hd3:w'.cell? ⟨wr.heap.size,3,none⟩ = some (.int .u32 p.yours):=(blk_cell s0.2 3).trans rfl
    have hd4:w'.cell? ⟨wr.heap.size,4,none⟩ = some (.int .u32 p.seq):=(blk_cell s0.2 4).trans rfl
    have hd5:w'.cell? ⟨wr.heap.size,5,none⟩ = some (.int .u32 p.ack):=(blk_cell s0.2 5).trans rfl
    have hd6:w'.cell? ⟨wr.heap.size,6,none⟩ = some (.int .u32 p.stamp):=(blk_cell s0.2 6).trans rfl
    have hd7:w'.cell? ⟨wr.heap.size,7,none⟩ = some (.int .u32 p.echo):=(blk_cell s0.2 7).trans rfl
    have hd8:w'.cell? ⟨wr.heap.size,8,none⟩ = some (.complex .f64 p.zr p.zi):=(blk_cell s0.2 8).trans rfl
    have hd9:w'.cell? ⟨wr.heap.size,9,none⟩ = some (.slice A2 p.body.length c2):=(blk_cell s0.2 9).trans rfl
    clear s0
    go_simp
    try rfl
   rotate_left
   ·simp only [Act.put,sA,sZ,sS]
    rfl
   refine pure_ (i:=11) (N:=some 87) (v:=?_) (a':=?_) M0T rfl rfl (by kernel_rfl) (fun _ _ _ h => h) (Or.inl ⟨by rfl,?_⟩) ?_ ?_
   rotate_left
   ·intro w'
    go_simp
    rfl
   rotate_left
   ·simp only [Act.put,sA,sZ,sS]
    rfl
   refine last_ (i:=12) (N:=some 88) M0U rfl rfl (by kernel_rfl) (by decide) (fun K hK => ?_)
   refine goes_ Try.func83 (by kernel_rfl) rfl #[.pointer (some ⟨gp,0,none⟩),.agg #[.int .i64 1,.int .u32 b0,.int .i64 p.kind,.int .u32 p.mine,.int .u32 p.boot,.int .u32 p.yours,.int .u32 p.seq,.int .u32 p.ack,.int .u32 p.stamp,.int .u32 p.echo,.complex .f64 p.zr p.zi,.slice A2 p.body.length c2]] (by rfl) rfl rfl (by (try simp only [List.map_toArray,List.map_cons,List.map_nil]); first | done | rfl) ?_
   have hc9:=PL.put (s:=0) (b:=(Y.sd 0).boot) (b0:=b0) (p:=p) (A2:=A2) (c2:=c2) (1:Int) (by decide) (by have:=HN0.out; have:=HLT0x.out; omega) HYI0x.out HPP0x.out HB00x.out HP0x.out HU0x.out HX0x.out HR0x.out HK0x.out HB0x.out HBD.out HYW0x.out HRB0x.out
   (with_reducible refine hc9.mono ?_)
   clear hc9
   rintro e w10 ⟨rfl,hst⟩
   refine ⟨_,rfl,?_⟩
   have HST:=Lib.hid hst
   clear hst hHeld
   refine hK.out _ _ ?_
   clear hK K
   refine done_ (by kernel_rfl) ?_
   go_wp2_with fail
   go_roundg (n0 - (i + 1))
   case measure => have:=HM0.out; have:=HN0.out; have:=HLT0x.out; omega
   case rel => exact ⟨i + 1,rfl,by have:=HN0.out; have:=HLT0x.out; omega,by first | rfl | simp,HST.out⟩
  ·have hd:decide ((i:Int) < (n0:Int)) = false:=by simp; omega
   have hie:i = n0:=by have:=HIN0.out; omega
   subst hie
   have hfin:=HF0.out
   have HWn0:Hid (WTurn w B gp U (pumpX Y 0) wr):=Lib.hid (by have hx:=HN0.out; rw [← hx] at hfin; exact PL.end_ hfin)
   clear hfin hlt
   go_wp2_with fail
   obtain ⟨⟨ge1,own1,lv1,wv1,hP,hU⟩,hk,hb⟩:=HWn0.out
   have hce1:wr.cell? ⟨gp,9,none⟩ = some (.pointer (some ⟨ge1 1,0,none⟩)):=(blk_cell hP.blk 9).trans rfl
   have HP1:=Lib.hid hP
   have HU1:=Lib.hid hU
   have HK1:=Lib.hid hk
   have HB1:=Lib.hid hb
   clear hP hU hk hb
   rw [rounds_succ]
   go_wp2_with (go_at_call 32; (have hc:=out_fine' (HP1.out.e 1 (by decide))); (with_reducible refine hc.mono ?_); clear hc; rintro e wo1 ⟨o1,okx,own',rfl,hE,ho,hR,hx,hkp,hz,hb,hg⟩; (obtain ⟨A11,c11,ho1⟩:=Kd.R_slice hR); subst ho1; (have HL1:=Lib.hid (PL.start (s:=1) (by decide) HP1.out HU1.out HK1.out HB1.out hE ho hR hx hkp hz hb hg)); (clear hE ho hR hx hkp hz hb hg))
   have hnb1:=HOY1.out
   generalize hnl1:((pumpX Y 0).sd 1).end_.out.length = n1 at *
   have HN1:=Lib.hid hnl1
   clear hnl1 hce1
   go_loopg [72] n1 (fun m v wr => ∃ i:Nat,m = n1 - i ∧ i ≤ n1 ∧ v = .int .i64 (i:Int) ∧ PL w B gp U ((pumpX Y 0).set 1 { (pumpX Y 0).sd 1 with end_:=outL ((pumpX Y 0).sd 1).end_ }) 1 ((pumpX Y 0).sd 1).boot (.slice A11 n1 c11) ((pumpX Y 0).sd 1).end_.out i wr)
   case atStart => exact ⟨0,rfl,Nat.zero_le _,rfl,HL1.out⟩
   case round =>
    obtain ⟨i,hm,hin,rfl,hF⟩:=hrel
    have HM1:=Lib.hid hm
    have HIN1:=Lib.hid hin
    have HF1:=Lib.hid hF
    clear hm hin hF
    by_cases hlt:(i:Int) < (n1:Int)
    ·have hd:decide ((i:Int) < (n1:Int)) = true:=by simp [hlt]
     have hsz:=HF1.out.size
     have HSZ:=Lib.hid hsz
     clear hsz
     obtain ⟨ge,own,lv,wv,okx,hP,hU,hx,hR,hk,hb⟩:=HF1.out
     obtain ⟨gx,cs,hA1,hM,hrg,hcl,hnp⟩:=pkt_elem hR i (by omega)
     subst hA1
     obtain ⟨b2,hb2,hRB⟩:=pkt_M.1 hM
     subst hb2
     obtain ⟨A2,c2,hb3⟩:=Kd.R_slice hRB
     subst hb3
     obtain ⟨Yi,hYi⟩:∃ Yi,Yi = putsX ((pumpX Y 0).set 1 { (pumpX Y 0).sd 1 with end_:=outL ((pumpX Y 0).sd 1).end_ }) ((1:Nat):Int) ((pumpX Y 0).sd 1).boot (((pumpX Y 0).sd 1).end_.out.take i):=⟨_,rfl⟩
     rw [← hYi] at hP
     obtain ⟨b0,hb0⟩:∃ b0,b0 = ((pumpX Y 0).sd 1).boot:=⟨_,rfl⟩
     have hYb:(Yi.sd 1).boot = b0:=by rw [hYi,putsX_sd,hb0]; rfl
     have hYw:Yi.way.length ≤ 1024:=by rw [hYi]; exact putsX_way _ _ _ _ HWY1.out
     obtain ⟨p,hp⟩:∃ p,p = ((pumpX Y 0).sd 1).end_.out.getD i nilP:=⟨_,rfl⟩
     rw [← hp] at hRB hrg hcl hM
     have HP1x:=Lib.hid hP
     have HU1x:=Lib.hid hU
     have HX1x:=Lib.hid hx
     have HR1x:=Lib.hid hR
     have HK1x:=Lib.hid hk
     have HB1x:=Lib.hid hb
     have HRB1x:=Lib.hid hRB
     have HRG1x:=Lib.hid hrg
     have HYI1x:=Lib.hid hYi
     have HB01x:=Lib.hid hb0
     have HYB1x:=Lib.hid hYb
     have HYW1x:=Lib.hid hYw
     have HPP1x:=Lib.hid hp
     have HLT1x:=Lib.hid hlt
     clear hP hU hx hR hk hb hRB hrg hcl hM hYi hb0 hYb hYw hp hnp hlt
     have hlt:i < n1:=by have:=HLT1x.out; omega
     have HZ1:=Lib.hid (heap_alloc_new wr (.cells #[.int .i64 0,.int .u32 0,.int .u32 0,.int .u32 0,.int .u32 0,.int .u32 0,.int .u32 0,.int .u32 0,.complex .f64 0 0,.slice none 0 0] 27))
     go_wp2_with (first | ((with_reducible refine gate_dst (N:=75) rfl ?_); (refine wpList_load_mid rfl 27 (.tmp 74) rfl gx (i * 10) (by first | rfl | (simp; done)) (cells p (.slice A2 p.body.length c2)) _ HRG1x.out Try.underlying27 rfl (by kernel_rfl) ?_)) | ((with_reducible refine gate_ (.store 27 (.tmp 10) (.tmp 75)) rfl ?_); (refine store_row_F rfl rfl 27 (.tmp 10) (.tmp 75) rfl wr.heap.size #[.int .i64 p.kind,.int .u32 p.mine,.int .u32 p.boot,.int .u32 p.yours,.int .u32 p.seq,.int .u32 p.ack,.int .u32 p.stamp,.int .u32 p.echo,.complex .f64 p.zr p.zi,.slice A2 p.body.length c2] rfl rfl 27 _ HZ1.out (by kernel_rfl) rfl (by kernel_rfl) ?_); (intro w8 hb8 hat8); (have HB8:=Lib.hid hb8); (have HBL8:=Lib.hid (hat8.below ((Below.refl wr.heap.size wr).alloc (Nat.le_refl _) _) (Nat.le_refl _))); (clear hb8 hat8)))
     have hbd:=bl_drew HBL8.out
     have hSS:w8.drew.heap[gp]? = some (.cells (prow Yi ge lv wv) 143 (0,0)) ∧ w8.drew.heap[wr.heap.size]? = some (.cells #[.int .i64 p.kind,.int .u32 p.mine,.int .u32 p.boot,.int .u32 p.yours,.int .u32 p.seq,.int .u32 p.ack,.int .u32 p.stamp,.int .u32 p.echo,.complex .f64 p.zr p.zi,.slice A2 p.body.length c2] 27 (0,0)):=⟨(HP1x.out.sub hbd).blk,HB8.out⟩
     clear HB8 HBL8
     refine start_ (n:=13) (S:=fun w' => w'.heap[gp]? = some (.cells (prow Yi ge lv wv) 143 (0,0)) ∧ w'.heap[wr.heap.size]? = some (.cells #[.int .i64 p.kind,.int .u32 p.mine,.int .u32 p.boot,.int .u32 p.yours,.int .u32 p.seq,.int .u32 p.ack,.int .u32 p.stamp,.int .u32 p.echo,.complex .f64 p.zr p.zi,.slice A2 p.body.length c2] 27 (0,0))) (ds:=[12]) M0E (by kernel_rfl) rfl rfl (hSS) (fun hHeld => ?_)
     generalize w8.drew = w9 at hbd hHeld ⊢
     have HBD:=Lib.hid hbd
     clear hbd
     refine pure_ (i:=0) (N:=some 76) (v:=?_) (a':=?_) M0F rfl rfl (by kernel_rfl) (fun _ _ _ h => h) (Or.inl ⟨by rfl,?_⟩) ?_ ?_
     rotate_left
     ·intro w'
      go_simp
      with_reducible rfl
     rotate_left
     ·simp only [Act.put,sA,sZ,sS]
      rfl
     refine pure_ (i:=1) (N:=some 77) (v:=?_) (a':=?_) M0G rfl rfl (by kernel_rfl) (fun _ _ _ h => h) (Or.inl ⟨by rfl,?_⟩) ?_ ?_
     rotate_left
     ·intro w'
      go_simp
      with_reducible rfl
     rotate_left
     ·simp only [Act.put,sA,sZ,sS]
      rfl
     refine pure_ (i:=2) (N:=some 78) (v:=?_) (a':=?_) M0H rfl rfl (by kernel_rfl) (fun _ _ _ h => h) (Or.inl ⟨by rfl,?_⟩) ?_ ?_
     rotate_left
     ·intro w'
      go_simp
      rfl
     rotate_left
     ·simp only [Act.put,sA,sZ,sS]
      rfl
     refine pure_ (i:=3) (N:=some 79) (v:=?_) (a':=?_) M0I rfl rfl (by kernel_rfl) (fun _ _ _ h => h) (Or.inl ⟨by rfl,?_⟩) ?_ ?_
     rotate_left
     ·intro w'
      go_simp
      with_reducible rfl
     rotate_left
     ·simp only [Act.put,sA,sZ,sS]
      rfl
     refine pure_ (i:=4) (N:=some 80) (v:=?_) (a':=?_) M0J rfl rfl (by kernel_rfl) (fun _ _ _ h => h) (Or.inl ⟨by rfl,?_⟩) ?_ ?_
     rotate_left
     ·intro w'
      go_simp
      with_reducible rfl
     rotate_left
     ·simp only [Act.put,sA,sZ,sS]
      rfl
     refine pure_ (i:=5) (N:=some 81) (v:=?_) (a':=?_) M0K rfl rfl (by kernel_rfl) (fun _ _ _ h => h) (Or.inl ⟨by rfl,?_⟩) ?_ ?_
     rotate_left
     ·intro w'
      go_simp
      with_reducible rfl
     rotate_left
     ·simp only [Act.put,sA,sZ,sS]
      rfl
     refine pure_ (i:=6) (N:=some 82) (v:=?_) (a':=?_) M0M rfl rfl (by kernel_rfl) (fun _ _ _ h => h) (Or.inl ⟨by rfl,?_⟩) ?_ ?_
     rotate_left
     ·intro w'
      go_simp
      with_reducible rfl
     rotate_left
     ·simp only [Act.put,sA,sZ,sS]
      rfl
     refine pure_ (i:=7) (N:=some 83) (v:=?_) (a':=?_) M0N rfl rfl (by kernel_rfl) (fun _ _ _ h => h) (Or.inl ⟨by rfl,?_⟩) ?_ ?_
     rotate_left
     ·intro w'
      go_simp
      rfl
     rotate_left
     ·simp only [Act.put,sA,sZ,sS]
      rfl
     refine pure_ (i:=8) (N:=some 84) (v:=?_) (a':=?_) M0O rfl rfl (by kernel_rfl) (fun _ _ _ h => h) (Or.inl ⟨by rfl,?_⟩) ?_ ?_
     rotate_left
     ·intro w'
      go_simp
      rfl
     rotate_left
     ·simp only [Act.put,sA,sZ,sS]
      rfl
     refine take_ (i:=9) (N:=some 85) (v:=?_) (a':=?_) M0P rfl rfl (by kernel_rfl) (fun _ _ _ h => h) (Or.inl ⟨by rfl,?_⟩) hHeld ?_ ?_
     rotate_left
     ·intro w' s0
      have hc1:w'.cell? ⟨gp,10,none⟩ = some (.int .u32 b0):=(blk_cell s0.1 10).trans (by rw [← HYB1x.out]; rfl)
      clear s0
      go_simp
      rfl
     rotate_left
     ·simp only [Act.put,sA,sZ,sS]
      rfl
     refine take_ (i:=10) (N:=some 86) (v:=?_) (a':=?_) M0R rfl rfl (by kernel_rfl) (fun _ _ _ h => h) (Or.inl ⟨by rfl,?_⟩) hHeld ?_ ?_
     rotate_left
     ·intro w' s0
      have hu27:=Try.underlying27
      have hd0:w'.cell? ⟨wr.heap.size,0,none⟩ = some (.int .i64 p.kind):=(blk_cell s0.2 0).trans rfl
      have hd1:w'.cell? ⟨wr.heap.size,1,none⟩ = some (.int .u32 p.mine):=(blk_cell s0.2 1).trans rfl
      have hd2:w'.cell? ⟨wr.heap.size,2,none⟩ = some (.int .u32 p.boot):=(blk_cell s0.2 2).trans rfl
      have hd3:w'.cell? ⟨wr.heap.size,3,none⟩ = some (.int .u32 p.yours):=(blk_cell s0.2 3).trans rfl
      have hd4:w'.cell? ⟨wr.heap.size,4,none⟩ = some (.int .u32 p.seq):=(blk_cell s0.2 4).trans rfl
      have hd5:w'.cell? ⟨wr.heap.size,5,none⟩ = some (.int .u32 p.ack):=(blk_cell s0.2 5).trans rfl
      have hd6:w'.cell? ⟨wr.heap.size,6,none⟩ = some (.int .u32 p.stamp):=(blk_cell s0.2 6).trans rfl
      have hd7:w'.cell? ⟨wr.heap.size,7,none⟩ = some (.int .u32 p.echo):=(blk_cell s0.2 7).trans rfl
      have hd8:w'.cell? ⟨wr.heap.size,8,none⟩ = some (.complex .f64 p.zr p.zi):=(blk_cell s0.2 8).trans rfl
      have hd9:w'.cell? ⟨wr.heap.size,9,none⟩ = some (.slice A2 p.body.length c2):=(blk_cell s0.2 9).trans rfl
      clear s0
      go_simp
      try rfl
     rotate_left
     ·simp only [Act.put,sA,sZ,sS]
      rfl
     refine pure_ (i:=11) (N:=some 87) (v:=?_) (a':=?_) M0T rfl rfl (by kernel_rfl) (fun _ _ _ h => h) (Or.inl ⟨by rfl,?_⟩) ?_ ?_
     rotate_left
     ·intro w'
      go_simp
      rfl
     rotate_left
     ·simp only [Act.put,sA,sZ,sS]
      rfl
     refine last_ (i:=12) (N:=some 88) M0U rfl rfl (by kernel_rfl) (by decide) (fun K hK => ?_)
     refine goes_ Try.func83 (by kernel_rfl) rfl #[.pointer (some ⟨gp,0,none⟩),.agg #[.int .i64 0,.int .u32 b0,.int .i64 p.kind,.int .u32 p.mine,.int .u32 p.boot,.int .u32 p.yours,.int .u32 p.seq,.int .u32 p.ack,.int .u32 p.stamp,.int .u32 p.echo,.complex .f64 p.zr p.zi,.slice A2 p.body.length c2]] (by rfl) rfl rfl (by (try simp only [List.map_toArray,List.map_cons,List.map_nil]); first | done | rfl) ?_
     have hc9:=PL.put (s:=1) (b:=((pumpX Y 0).sd 1).boot) (b0:=b0) (p:=p) (A2:=A2) (c2:=c2) (0:Int) (by decide) (by have:=HN1.out; have:=HLT1x.out; omega) HYI1x.out HPP1x.out HB01x.out HP1x.out HU1x.out HX1x.out HR1x.out HK1x.out HB1x.out HBD.out HYW1x.out HRB1x.out
     (with_reducible refine hc9.mono ?_)
     clear hc9
     rintro e w10 ⟨rfl,hst⟩
     refine ⟨_,rfl,?_⟩
     have HST:=Lib.hid hst
     clear hst hHeld
     refine hK.out _ _ ?_
     clear hK K
     refine done_ (by kernel_rfl) ?_
     go_wp2_with fail
     go_roundg (n1 - (i + 1))
     case measure => have:=HM1.out; have:=HN1.out; have:=HLT1x.out; omega
     case rel => exact ⟨i + 1,rfl,by have:=HN1.out; have:=HLT1x.out; omega,by first | rfl | simp,HST.out⟩
    ·have hd:decide ((i:Int) < (n1:Int)) = false:=by simp; omega
     have hie:i = n1:=by have:=HIN1.out; omega
     subst hie
     have hfin:=HF1.out
     have HWn1:Hid (WTurn w B gp U (pumpX (pumpX Y 0) 1) wr):=Lib.hid (by have hx:=HN1.out; rw [← hx] at hfin; exact PL.end_ hfin)
     clear hfin hlt
     go_wp2_with fail
     rw [rounds_succ]
     go_wp2_with fail
     all_goals (go_ret; exact ⟨rfl,HWn1.out⟩)
end Go.Proofs.Ytnkkgofpifhoeaa.Pr
end
section
namespace Go.Proofs.Ytnkkgofpifhoeaa.Pr
open Go.RowKit Go.Proofs.Ytnkkgofpifhoeaa.Base Go.Proofs.Ytnkkgofpifhoeaa.Steps Go.Proofs.Ytnkkgofpifhoeaa.Lk Go.Proofs.Ytnkkgofpifhoeaa.Win Go.Proofs.YtnkkgofpifhoeaaW.PrintWords Go.Proofs.YtnkkgofpifhoeaaW.PrintLast
def bootS (d:Sd):Sd:={ d with boot:=d.boot + 1 }
def bootE (d:Sd):Ent:=⟨5,d.boot + 1,0,0,0,[]⟩
theorem PAt.newend {w w1:World} {B gp g:Nat} {ge:Nat → Nat} {own:Nat → Nat → Prop} {X:Pr} {lv:Nat → Value} {wv:Value} (h:PAt w B gp ge own X lv wv) {s:Nat} (hs:s < 2) {L:Lk} (hA:Lk.At w1 B (fun _ => False) (fun _ => False) g L (.slice none 0 0) (.slice none 0 0)) (hb:Below w.heap.size w w1) (hg:w.heap.size ≤ g) :
  PAt (w1.setCell ⟨gp,9 * s,none⟩ (.pointer (some ⟨g,0,none⟩))) B gp (fun t => if t = s then g else ge t) (fun j k => own j k ∨ j = 1 + s ∧ k = g) (X.set s (endF (X.sd s) L)) lv wv:=by
 have hl:=blk_lt h.blk
 have hl1:=blk_lt hA.blk
 have hk2:Kept w1 (w1.setCell ⟨gp,9 * s,none⟩ (.pointer (some ⟨g,0,none⟩))) (fun k => k = gp):=Kept.setCell (S:=fun k => k = gp) (Kept.refl w1 _) (p:=⟨gp,9 * s,none⟩) (.inl rfl) _
 have hk:Kept w w1 (fun _ => False):=Kept.of_below hb _
 have hz2:(w1.setCell ⟨gp,9 * s,none⟩ (.pointer (some ⟨g,0,none⟩))).heap.size = w1.heap.size:=by simp [World.setCell]
 have hrow:=blk_kept h.blk hk (fun x => x)
 refine ⟨?_,h.low,fun i hi => ?_,fun i j k hi hj => ?_,fun i k hi => ?_,fun t ht => ?_,fun t ht => ?_,((h.way.kept hk (fun _ _ x => x)).kept hk2 (fun k hx hy => h.gp0 _ (hy ▸ hx))).mono (fun k hx => .inl hx)⟩
 ·have h0:s = 0 ∨ s = 1:=by omega
  rcases h0 with rfl | rfl
  ·exact blk_put hrow 0 _ rfl
  ·exact blk_put hrow 9 _ rfl
 ·rcases hi with hi | hi
  ·exact h.gp0 _ hi
  ·omega
 ·rcases hi with hi | hi <;> rcases hj with hj | hj
  ·exact h.disj _ _ _ hi hj
  ·have:=h.lt _ _ hi; omega
  ·have:=h.lt _ _ hj; omega
  ·omega
 ·rw [hz2]
  rcases hi with hi | hi
  ·have:=h.lt _ _ hi; have:=hb.size; omega
  ·omega
 ·by_cases hts:t = s
  ·subst hts
   rw [Pr.set_eq]
   show Lk.End _ B _ (if t = t then g else ge t) L
   rw [if_pos rfl]
   exact ((end_new hA).kept hk2 (fun k hx hy => by omega)).mono (fun k hx => .inr ⟨rfl,hx⟩)
  ·rw [Pr.set_ne X hts]
   show Lk.End _ B _ (if t = s then g else ge t) _
   rw [if_neg hts]
   exact (((h.e t ht).kept hk (fun _ _ x => x)).kept hk2 (fun k hx hy => h.gp0 _ (hy ▸ hx))).mono (fun k hx => .inl hx)
 ·have:((X.set s (endF (X.sd s) L)).sd t).log = (X.sd t).log:=by
   by_cases hts:t = s
   ·subst hts; rw [Pr.set_eq]; rfl
   ·rw [Pr.set_ne X hts]
  rw [this]
  exact Kd.R_mono (Kd.R_kept (Kd.R_kept (h.l t ht) hk (fun _ _ x => x)) hk2 (fun k hx hy => h.gp0 _ (hy ▸ hx))) (fun k hx => .inl hx)
theorem PAt.newboot {w:World} {B gp:Nat} {ge:Nat → Nat} {own:Nat → Nat → Prop} {X:Pr} {lv:Nat → Value} {wv:Value} (h:PAt w B gp ge own X lv wv) {s:Nat} (hs:s < 2):PAt (w.setCell ⟨gp,9 * s + 1,none⟩ (.int .u32 ((X.sd s).boot + 1))) B gp ge own (X.set s (bootS (X.sd s))) lv wv:=by
 have hk2:Kept w (w.setCell ⟨gp,9 * s + 1,none⟩ (.int .u32 ((X.sd s).boot + 1))) (fun k => k = gp):=Kept.setCell (S:=fun k => k = gp) (Kept.refl w _) (p:=⟨gp,9 * s + 1,none⟩) (.inl rfl) _
 refine h.newrow ?_ hk2 (fun t => ?_) (fun t => ?_) rfl
 ·have h0:s = 0 ∨ s = 1:=by omega
  rcases h0 with rfl | rfl
  ·exact blk_put h.blk 1 _ rfl
  ·exact blk_put h.blk 10 _ rfl
 ·by_cases hts:t = s
  ·subst hts; rw [Pr.set_eq]; rfl
  ·rw [Pr.set_ne X hts]
 ·by_cases hts:t = s
  ·subst hts; rw [Pr.set_eq]; rfl
  ·rw [Pr.set_ne X hts]
theorem reboot_end {w w5 w7:World} {B gp s:Nat} {ge5:Nat → Nat} {own5:Nat → Nat → Prop} {X5:Pr} {lv:Nat → Value} {wv v1:Value} {U:Nat → Prop} {ls:List Ent} (hs:s < 2) (h5:PAt w5 B gp ge5 own5 X5 lv wv) (hU5:∀ i k,own5 i k → newer U w k) (hk5:Kept w w5 (fun k => k = gp)) (hb5:Below B w w5)
  (hk:Kept w5 w7 (own5 (3 + s))) (hw:ent.R 67 w7 B (fun k => own5 (3 + s) k ∨ w5.heap.size ≤ k) v1 ls) (hb7:Below B w5 w7):WTurn w B gp U (X5.set s { X5.sd s with log:=ls }) (w7.setCell ⟨gp,9 * s + 2,none⟩ v1):=by
 have hz:=hk5.1
 refine ⟨⟨_,_,_,_,h5.newlog hs hk hw,fun i k hx => ?_⟩,?_,?_⟩
 ·rcases hx with hx | hx
  ·exact hU5 i k hx
  ·exact .inr (by omega)
 ·refine Kept.setCell (S:=fun k => k = gp ∨ U k) (p:=⟨gp,9 * s + 2,none⟩) ((hk5.mono (fun k hx => .inl hx)).then_ hk (fun k hx => ?_)) (.inl (.inl rfl)) _
  rcases hU5 _ k hx with hu | hu
  ·exact .inl (.inr hu)
  ·exact .inr hu
 ·exact (hb5.trans hb7).setCell (p:=⟨gp,9 * s + 2,none⟩) h5.low _
set_option maxRecDepth 100000 in
set_option maxHeartbeats 2000000 in
theorem reboot_max_0 {w:World} {B gp:Nat} {ge:Nat → Nat} {own:Nat → Nat → Prop} {X:Pr} {lv:Nat → Value} {wv:Value} {U:Nat → Prop} (h:PAt w B gp ge own X lv wv) (hU:∀ i k,own i k → U k) (kind i:Int) (vb:Value) (hb0:0 ≤ (X.sd 0).boot) (hb1:(X.sd 0).boot = 4294967295) :
  Calls Try.prog 111 #[.pointer (some ⟨gp,0,none⟩),.agg #[.int .i64 kind,.int .i64 0,.int .i64 i,vb]] w fun e w' => e = .returned (.int .i64 2) ∧ WTurn w B gp U (X) w':=by
 have hba:Below w.heap.size w (w.alloc (.cells #[.int .i64 kind,.int .i64 0,.int .i64 i,vb] 72)):=(Below.refl _ _).alloc (Nat.le_refl _) _
 have hc1:(w.alloc (.cells #[.int .i64 kind,.int .i64 0,.int .i64 i,vb] 72)).cell? ⟨w.heap.size,1,none⟩ = some (.int .i64 0):=(blk_cell (heap_alloc_new w _) 1).trans rfl
 have hc2:(w.alloc (.cells #[.int .i64 kind,.int .i64 0,.int .i64 i,vb] 72)).cell? ⟨gp,1,none⟩ = some (.int .u32 (X.sd 0).boot):=(blk_cell (h.sub hba).blk 1).trans rfl
 have H:=Lib.hid h
 have HU:=Lib.hid hU
 have HB:=Lib.hid hba
 rw [hb1] at hc2
 clear h hU hba hb0 hb1
 go_enter Try.func111,Try.ntmps111
 go_wp2_with fail
 go_quiet (fail)
 rename Nat => nq1
 have hb1:=HB.out.trans (pw_below_drewN (Below.refl _ _) nq1:Below w.heap.size (w.alloc (.cells #[.int .i64 kind,.int .i64 0,.int .i64 i,vb] 72)) _)
 have HB2:=Lib.hid hb1
 clear hb1
 go_wp2_with fail
 all_goals (go_ret; exact ⟨rfl,⟨ge,own,lv,wv,H.out.sub HB2.out,fun i k hx => .inl (HU.out i k hx)⟩,Kept.of_below HB2.out _,HB2.out.mono H.out.hB⟩)
set_option maxRecDepth 100000 in
set_option maxHeartbeats 2000000 in
theorem reboot_new_0 {w:World} {B gp:Nat} {ge:Nat → Nat} {own:Nat → Nat → Prop} {X:Pr} {lv:Nat → Value} {wv:Value} {U:Nat → Prop} (h:PAt w B gp ge own X lv wv) (hU:∀ i k,own i k → U k) (kind i:Int) (vb:Value) (hb0:0 ≤ (X.sd 0).boot) (hb1:(X.sd 0).boot < 4294967295) (hll:(X.sd 0).log.length ≤ 1000000) :
  Calls Try.prog 111 #[.pointer (some ⟨gp,0,none⟩),.agg #[.int .i64 kind,.int .i64 0,.int .i64 i,vb]] w fun e w' => e = .returned (.int .i64 0) ∧ WTurn w B gp U (X.set 0 { endF (bootS (X.sd 0)) (newL ((X.sd 0).boot + 1)) with log:=(X.sd 0).log ++ [bootE (X.sd 0)] }) w':=by
 have hba:Below w.heap.size w (w.alloc (.cells #[.int .i64 kind,.int .i64 0,.int .i64 i,vb] 72)):=(Below.refl _ _).alloc (Nat.le_refl _) _
 have hc1:(w.alloc (.cells #[.int .i64 kind,.int .i64 0,.int .i64 i,vb] 72)).cell? ⟨w.heap.size,1,none⟩ = some (.int .i64 0):=(blk_cell (heap_alloc_new w _) 1).trans rfl
 have hc2:(w.alloc (.cells #[.int .i64 kind,.int .i64 0,.int .i64 i,vb] 72)).cell? ⟨gp,1,none⟩ = some (.int .u32 (X.sd 0).boot):=(blk_cell (h.sub hba).blk 1).trans rfl
 have H:=Lib.hid h
 have HU:=Lib.hid hU
 have HB:=Lib.hid hba
 have HLL:=Lib.hid hll
 have hbx:¬ ((X.sd 0).boot = 4294967295):=by omega
 have hbq:((X.sd 0).boot == 4294967295) = false:=by simp [hbx]
 have HBT:=Lib.hid (show 0 < (X.sd 0).boot + 1 ∧ (X.sd 0).boot + 1 < 4294967296 from ⟨by omega,by omega⟩)
 clear h hU hba hll
 have hbw:(X.sd 0).boot + 1 < 4294967296:=by omega
 have HR0:=Lib.hid hbw
 go_enter Try.func111,Try.ntmps111
 go_wp2_with fail
 go_quiet (fail)
 rename Nat => nq1
 have hb1':=HB.out.trans (pw_below_drewN (Below.refl _ _) nq1:Below w.heap.size (w.alloc (.cells #[.int .i64 kind,.int .i64 0,.int .i64 i,vb] 72)) _)
 have HB2:=Lib.hid hb1'
 have HX2:=Lib.hid (H.out.sub hb1').blk
 clear hb1'
 go_wp2_with (first | ((with_reducible refine gate_ (.store 24 (.tmp 23) (.tmp 21)) rfl ?_); (refine store_F (fun wz => PAt wz B gp ge own (X.set 0 (bootS (X.sd 0))) lv wv ∧ Kept w wz (fun k => k = gp) ∧ Below B w wz) rfl rfl ⟨_,(by have hz1:World.cell? ((w.alloc (.cells #[.int .i64 kind,.int .i64 0,.int .i64 i,vb] 72)).drewN nq1) ⟨gp,1,none⟩ = some _:=(blk_cell HX2.out 1).trans rfl; have hz2:=blk_frozen HX2.out 1; first | (go_simp; done) | (go_simp; rfl)),(H.out.sub HB2.out).newboot (s:=0) (by decide),Kept.setCell (S:=fun k => k = gp) (p:=⟨gp,1,none⟩) (Kept.of_below HB2.out _) (.inl rfl) _,(HB2.out.mono H.out.hB).setCell (p:=⟨gp,1,none⟩) H.out.low _⟩ (fun w3 hF => ?_)); (have HP3:=Lib.hid hF.1); (have HK3:=Lib.hid hF.2.1); (have HB3:=Lib.hid hF.2.2); (have hc3:w3.cell? ⟨gp,1,none⟩ = some (.int .u32 ((X.sd 0).boot + 1)):=(blk_cell HP3.out.blk 1).trans rfl); (clear hF hc1 hc2)) | (go_at_call 26; (have hc9:=new_of ((X.sd 0).boot + 1) HBT.out w3 B HP3.out.hB); (with_reducible refine hc9.mono ?_); clear hc9; rintro e w4 ⟨rfl,hA,hb4⟩; (have HA4:=Lib.hid hA); (have HB4:=Lib.hid hb4); (have HX4:=Lib.hid (HP3.out.sub hb4).blk); (clear hA hb4 hc3)) | ((with_reducible refine gate_ (.store 46 (.tmp 34) (.tmp 31)) rfl ?_); (refine store_F (fun wz => PAt wz B gp (fun t => if t = 0 then w3.heap.size else ge t) (fun j k => own j k ∨ j = 1 ∧ k = w3.heap.size) ((X.set 0 (bootS (X.sd 0))).set 0 (endF ((X.set 0 (bootS (X.sd 0))).sd 0) (newL ((X.sd 0).boot + 1)))) lv wv ∧ Kept w wz (fun k => k = gp) ∧ Below B w wz) rfl rfl ⟨_,(by have hz1:World.cell? w4 ⟨gp,0,none⟩ = some _:=(blk_cell HX4.out 0).trans rfl; have hz2:=blk_frozen HX4.out 0; first | (go_simp; done) | (go_simp; rfl)),HP3.out.newend (s:=0) (by decide) HA4.out HB4.out (Nat.le_refl _),Kept.setCell (S:=fun k => k = gp) (p:=⟨gp,0,none⟩) (HK3.out.below HB4.out) (.inl rfl) _,(HB3.out.trans (HB4.out.mono HP3.out.hB)).setCell (p:=⟨gp,0,none⟩) H.out.low _⟩ (fun w5 hF => ?_)); (have hP5:=hF.1); (rw [Pr.set_eq,Pr.set_set] at hP5); (have HP5:=Lib.hid hP5); (have HK5:=Lib.hid hF.2.1); (have HB5:=Lib.hid hF.2.2); (clear hF hP5)))
 obtain ⟨Al,cl,hlv⟩:=Kd.R_slice (H.out.l 0 (by decide))
 have HLV:=Lib.hid hlv
 clear hlv
 obtain ⟨ge5,hge5⟩:∃ g,g = (fun t => if t = 0 then w3.heap.size else ge t):=⟨_,rfl⟩
 obtain ⟨own5,how5⟩:∃ g,g = (fun j k => own j k ∨ j = 1 ∧ k = w3.heap.size):=⟨_,rfl⟩
 have hP5:=HP5.out
 rw [← hge5,← how5] at hP5
 have HQ5:=Lib.hid hP5
 have HU5:=Lib.hid (show ∀ i k,own5 i k → newer U w k from fun i k hx => by
  rw [how5] at hx
  exact hx.elim (fun y => .inl (HU.out i k y)) (fun y => .inr (by have:=HK3.out.1; omega)))
 clear HP5 hP5 hge5 how5 HX4 HA4 HB4
 have hSS:w5.drew.heap[gp]? = some (.cells (prow (X.set 0 (endF (bootS (X.sd 0)) (newL ((X.sd 0).boot + 1)))) ge5 lv wv) 143 (0,0)):=HQ5.out.blk
 have hbd:=bl_drew (Below.refl w5.heap.size w5)
 refine start_ (n:=15) (S:=fun w' => w'.heap[gp]? = some (.cells (prow (X.set 0 (endF (bootS (X.sd 0)) (newL ((X.sd 0).boot + 1)))) ge5 lv wv) 143 (0,0))) (ds:=[14]) M01 (by kernel_rfl) rfl rfl (hSS) (fun hHeld => ?_)
 generalize w5.drew = w6 at hbd hHeld ⊢
 have HBD:=Lib.hid hbd
 clear hbd
 refine pure_ (i:=0) (N:=some 35) (v:=?_) (a':=?_) M02 rfl rfl (by kernel_rfl) (fun _ _ _ h => h) (Or.inl ⟨by rfl,?_⟩) ?_ ?_
 rotate_left
 ·intro w'
  go_simp
  with_reducible rfl
 rotate_left
 ·simp only [Act.put,sA,sZ,sS]
  rfl
 refine pure_ (i:=1) (N:=some 36) (v:=?_) (a':=?_) M03 rfl rfl (by kernel_rfl) (fun _ _ _ h => h) (Or.inl ⟨by rfl,?_⟩) ?_ ?_
 rotate_left
 ·intro w'
  go_simp
  with_reducible rfl
 rotate_left
 ·simp only [Act.put,sA,sZ,sS]
  rfl
 refine pure_ (i:=2) (N:=some 37) (v:=?_) (a':=?_) M04 rfl rfl (by kernel_rfl) (fun _ _ _ h => h) (Or.inl ⟨by rfl,?_⟩) ?_ ?_
 rotate_left
 ·intro w'
  go_simp
  with_reducible rfl
 rotate_left
 ·simp only [Act.put,sA,sZ,sS]
  rfl
 refine pure_ (i:=3) (N:=some 38) (v:=?_) (a':=?_) M05 rfl rfl (by kernel_rfl) (fun _ _ _ h => h) (Or.inl ⟨by rfl,?_⟩) ?_ ?_
 rotate_left
 ·intro w'
  go_simp
  with_reducible rfl
 rotate_left
 ·simp only [Act.put,sA,sZ,sS]
  rfl
 refine take_ (i:=4) (N:=some 39) (v:=?_) (a':=?_) M06 rfl rfl (by kernel_rfl) (fun _ _ _ h => h) (Or.inl ⟨by rfl,?_⟩) hHeld ?_ ?_
 rotate_left
 ·intro w' s0
  have hcl:w'.cell? ⟨gp,2,none⟩ = some (.slice Al (X.sd 0).log.length cl):=(blk_cell s0 2).trans (by rw [← HLV.out]; rfl)
  clear s0
  go_simp
  with_reducible rfl
 rotate_left
 ·simp only [Act.put,sA,sZ,sS]
  rfl
 refine pure_ (i:=5) (N:=some 40) (v:=?_) (a':=?_) M07 rfl rfl (by kernel_rfl) (fun _ _ _ h => h) (Or.inl ⟨by rfl,?_⟩) ?_ ?_
 rotate_left
 ·intro w'
  go_simp
  with_reducible rfl
 rotate_left
 ·simp only [Act.put,sA,sZ,sS]
  rfl
 refine pure_ (i:=6) (N:=some 41) (v:=?_) (a':=?_) M08 rfl rfl (by kernel_rfl) (fun _ _ _ h => h) (Or.inl ⟨by rfl,?_⟩) ?_ ?_
 rotate_left
 ·intro w'
  go_simp
  with_reducible rfl
 rotate_left
 ·simp only [Act.put,sA,sZ,sS]
  rfl
 refine pure_ (i:=7) (N:=some 42) (v:=?_) (a':=?_) M09 rfl rfl (by kernel_rfl) (fun _ _ _ h => h) (Or.inl ⟨by rfl,?_⟩) ?_ ?_
 rotate_left
 ·intro w'
  go_simp
  with_reducible rfl
 rotate_left
 ·simp only [Act.put,sA,sZ,sS]
  rfl
 refine take_ (i:=8) (N:=some 43) (v:=?_) (a':=?_) M0a rfl rfl (by kernel_rfl) (fun _ _ _ h => h) (Or.inl ⟨by rfl,?_⟩) hHeld ?_ ?_
 rotate_left
 ·intro w' s0
  have hcb:w'.cell? ⟨gp,1,none⟩ = some (.int .u32 ((X.sd 0).boot + 1)):=(blk_cell s0 1).trans rfl
  clear s0
  go_simp
  with_reducible rfl
 rotate_left
 ·simp only [Act.put,sA,sZ,sS]
  rfl
 refine pure_ (i:=9) (N:=some 44) (v:=?_) (a':=?_) M0b rfl rfl (by kernel_rfl) (fun _ _ _ h => h) (Or.inl ⟨by rfl,?_⟩) ?_ ?_
 rotate_left
 ·intro w'
  go_simp
  rfl
 rotate_left
 ·simp only [Act.put,sA,sZ,sS]
  rfl
 refine one_ (i:=10) (N:=some 45) M0c rfl rfl (by kernel_rfl) (by decide) (fun K hK => ?_)
 refine value_ (v:=.slice (some ⟨w6.heap.size,0,none⟩) 1 1) (by rfl) rfl (w1:=w6.alloc (.cells #[.int .i64 5,.int .u32 ((X.sd 0).boot + 1),.int .u32 0,.int .u32 0,.int .u32 0,.slice none 0 0] 67)) ?_ ?_
 ·first | (go_simp; done) | (go_simp; rfl)
 have hb2:=(Below.refl w6.heap.size w6).alloc (Nat.le_refl _) (.cells #[.int .i64 5,.int .u32 ((X.sd 0).boot + 1),.int .u32 0,.int .u32 0,.int .u32 0,.slice none 0 0] 67)
 refine hK.out _ _ ((hb2.block gp (blk_lt hHeld)).trans hHeld) (fun hHeld => ?_)
 clear hK K hb2
 refine norm_ (a':=?_) ?_ ?_
 rotate_left
 ·show Act.put _ (some 45) _ = _
  simp only [Act.put,sA,sZ,sS]
  rfl
 refine one_ (i:=11) (N:=some 46) M0d rfl rfl (by kernel_rfl) (by decide) (fun K hK => ?_)
 have hQ6:=HQ5.out.sub HBD.out
 have hl6:ent.R 67 w6 B (own5 3) (lv 0) (X.sd 0).log:=by have hx:=hQ6.l 0 (by decide); rw [Pr.set_eq] at hx; exact hx
 have hM6:ent.M w6 B (fun _ => False) (bootE (X.sd 0)) (ecells (bootE (X.sd 0)) (.slice none 0 0)):=ent_M.2 ⟨_,rfl,Kd.R_nil _ _ _ _ _⟩
 refine Kd.R_append_step ent (w0:=w5) (W:=w6) B ?hw (.tmp 39) (.tmp 45) 64 67 (.agg #[.int .i64 0,.int .u32 0,.int .u32 0,.int .u32 0,.int .u32 0,.slice none 0 0]) 48 ?ho Try.underlying64 info67 ?hz ?hs0 ?hb0 (lv 0) (X.sd 0).log (bootE (X.sd 0)) (ecells (bootE (X.sd 0)) (.slice none 0 0)) (fun k => own5 3 k ∨ w5.heap.size ≤ k) (fun k => False ∧ some k ≠ (lv 0).ownBlock) ?hs ?hx (ent_free hM6 hl6) ?hokp ?hf (Kd.R_mono hl6 (fun _ hk => .inl hk)) (HBD.out.mono HQ5.out.hB) hQ6.hB ?hl ?hk
 case hw => rfl
 case ho => rfl
 case hz => rfl
 case hs0 => decide
 case hb0 => decide
 case hs => rw [HLV.out]; rfl
 case hx => rfl
 case hokp => exact fun k hk => hk.1.elim
 case hf => exact fun k hk => .inr (by have:=HBD.out.size; omega)
 case hl => have:=HLL.out; omega
 intro o1 w7 hR hbl hg _
 obtain ⟨A7,c7,ho1⟩:=Kd.R_slice hR
 generalize ((X.sd 0).log ++ [bootE (X.sd 0)]).length = n7 at ho1
 subst ho1
 have hK7:Kept w5 w7 (own5 3):=Kept.of_grown hg (Kept.of_below HBD.out _) (fun k hk => .inl (hl6.1 k hk))
 have hX7:w7.heap[gp]? = some (.cells (prow (X.set 0 (endF (bootS (X.sd 0)) (newL ((X.sd 0).boot + 1)))) ge5 lv wv) 143 (0,0)):=blk_kept HQ5.out.blk hK7 (HQ5.out.gp0 _)
 have HX7:=Lib.hid hX7
 have HR7:=Lib.hid hR
 have HK7:=Lib.hid hK7
 have HBl7:=Lib.hid hbl
 clear hR hbl hg hK7 hQ6 hM6 hl6 hHeld
 refine hK.out _ _ hX7 (fun hHeld => ?_)
 clear hK K hX7
 refine norm_ (a':=?_) ?_ ?_
 rotate_left
 ·show Act.put _ (some 46) _ = _
  simp only [Act.put,sA,sZ,sS]
  rfl
 refine pure_ (i:=12) (N:=some 47) (v:=?_) (a':=?_) M00 rfl rfl (by kernel_rfl) (fun _ _ _ h => h) (Or.inl ⟨by rfl,?_⟩) ?_ ?_
 rotate_left
 ·intro w'
  go_simp
  with_reducible rfl
 rotate_left
 ·simp only [Act.put,sA,sZ,sS]
  rfl
 refine pure_ (i:=13) (N:=some 48) (v:=?_) (a':=?_) M0e rfl rfl (by kernel_rfl) (fun _ _ _ h => h) (Or.inl ⟨by rfl,?_⟩) ?_ ?_
 rotate_left
 ·intro w'
  go_simp
  with_reducible rfl
 rotate_left
 ·simp only [Act.put,sA,sZ,sS]
  rfl
 refine last_ (i:=14) (N:=none) M0f rfl rfl (by kernel_rfl) (by decide) (fun K hK => ?_)
 have hz1:w7.cell? ⟨gp,2,none⟩ = some _:=(blk_cell HX7.out 2).trans rfl
 have hz2:=blk_frozen HX7.out 2
 refine skip_F (fun wz => WTurn w B gp U ((X.set 0 (endF (bootS (X.sd 0)) (newL ((X.sd 0).boot + 1)))).set 0 { (X.set 0 (endF (bootS (X.sd 0)) (newL ((X.sd 0).boot + 1)))).sd 0 with log:=(X.sd 0).log ++ [bootE (X.sd 0)] }) wz) (by rfl) rfl ⟨_,by first | (go_simp; done) | (go_simp; rfl),reboot_end (s:=0) (by decide) HQ5.out HU5.out HK5.out HB5.out HK7.out HR7.out HBl7.out⟩ (fun w8 hF => ?_)
 rw [Pr.set_eq,Pr.set_set] at hF
 have HF:=Lib.hid hF
 clear hF hz1 hz2 hHeld
 refine hK.out _ _ ?_
 clear hK K
 refine done_ (by kernel_rfl) ?_
 go_wp2_with fail
 all_goals (go_ret; exact ⟨rfl,HF.out⟩)
set_option maxRecDepth 100000 in
set_option maxHeartbeats 2000000 in
theorem reboot_max_1 {w:World} {B gp:Nat} {ge:Nat → Nat} {own:Nat → Nat → Prop} {X:Pr} {lv:Nat → Value} {wv:Value} {U:Nat → Prop} (h:PAt w B gp ge own X lv wv) (hU:∀ i k,own i k → U k) (kind i:Int) (vb:Value) (hb0:0 ≤ (X.sd 1).boot) (hb1:(X.sd 1).boot = 4294967295) :
  Calls Try.prog 111 #[.pointer (some ⟨gp,0,none⟩),.agg #[.int .i64 kind,.int .i64 1,.int .i64 i,vb]] w fun e w' => e = .returned (.int .i64 2) ∧ WTurn w B gp U (X) w':=by
 have hba:Below w.heap.size w (w.alloc (.cells #[.int .i64 kind,.int .i64 1,.int .i64 i,vb] 72)):=(Below.refl _ _).alloc (Nat.le_refl _) _
 have hc1:(w.alloc (.cells #[.int .i64 kind,.int .i64 1,.int .i64 i,vb] 72)).cell? ⟨w.heap.size,1,none⟩ = some (.int .i64 1):=(blk_cell (heap_alloc_new w _) 1).trans rfl
 have hc2:(w.alloc (.cells #[.int .i64 kind,.int .i64 1,.int .i64 i,vb] 72)).cell? ⟨gp,10,none⟩ = some (.int .u32 (X.sd 1).boot):=(blk_cell (h.sub hba).blk 10).trans rfl
 have H:=Lib.hid h
 have HU:=Lib.hid hU
 have HB:=Lib.hid hba
 rw [hb1] at hc2
 clear h hU hba hb0 hb1
 go_enter Try.func111,Try.ntmps111
 go_wp2_with fail
 go_quiet (fail)
 rename Nat => nq1
 have hb1:=HB.out.trans (pw_below_drewN (Below.refl _ _) nq1:Below w.heap.size (w.alloc (.cells #[.int .i64 kind,.int .i64 1,.int .i64 i,vb] 72)) _)
 have HB2:=Lib.hid hb1
 clear hb1
 go_wp2_with fail
 all_goals (go_ret; exact ⟨rfl,⟨ge,own,lv,wv,H.out.sub HB2.out,fun i k hx => .inl (HU.out i k hx)⟩,Kept.of_below HB2.out _,HB2.out.mono H.out.hB⟩)
set_option maxRecDepth 100000 in
set_option maxHeartbeats 2000000 in
theorem reboot_new_1 {w:World} {B gp:Nat} {ge:Nat → Nat} {own:Nat → Nat → Prop} {X:Pr} {lv:Nat → Value} {wv:Value} {U:Nat → Prop} (h:PAt w B gp ge own X lv wv) (hU:∀ i k,own i k → U k) (kind i:Int) (vb:Value) (hb0:0 ≤ (X.sd 1).boot) (hb1:(X.sd 1).boot < 4294967295) (hll:(X.sd 1).log.length ≤ 1000000) :
  Calls Try.prog 111 #[.pointer (some ⟨gp,0,none⟩),.agg #[.int .i64 kind,.int .i64 1,.int .i64 i,vb]] w fun e w' => e = .returned (.int .i64 0) ∧ WTurn w B gp U (X.set 1 { endF (bootS (X.sd 1)) (newL ((X.sd 1).boot + 1)) with log:=(X.sd 1).log ++ [bootE (X.sd 1)] }) w':=by
 have hba:Below w.heap.size w (w.alloc (.cells #[.int .i64 kind,.int .i64 1,.int .i64 i,vb] 72)):=(Below.refl _ _).alloc (Nat.le_refl _) _
 have hc1:(w.alloc (.cells #[.int .i64 kind,.int .i64 1,.int .i64 i,vb] 72)).cell? ⟨w.heap.size,1,none⟩ = some (.int .i64 1):=(blk_cell (heap_alloc_new w _) 1).trans rfl
 have hc2:(w.alloc (.cells #[.int .i64 kind,.int .i64 1,.int .i64 i,vb] 72)).cell? ⟨gp,10,none⟩ = some (.int .u32 (X.sd 1).boot):=(blk_cell (h.sub hba).blk 10).trans rfl
 have H:=Lib.hid h
 have HU:=Lib.hid hU
 have HB:=Lib.hid hba
 have HLL:=Lib.hid hll
 have hbx:¬ ((X.sd 1).boot = 4294967295):=by omega
 have hbq:((X.sd 1).boot == 4294967295) = false:=by simp [hbx]
 have HBT:=Lib.hid (show 0 < (X.sd 1).boot + 1 ∧ (X.sd 1).boot + 1 < 4294967296 from ⟨by omega,by omega⟩)
 clear h hU hba hll
 have hbw:(X.sd 1).boot + 1 < 4294967296:=by omega
 have HR0:=Lib.hid hbw
 go_enter Try.func111,Try.ntmps111
 go_wp2_with fail
 go_quiet (fail)
 rename Nat => nq1
 have hb1':=HB.out.trans (pw_below_drewN (Below.refl _ _) nq1:Below w.heap.size (w.alloc (.cells #[.int .i64 kind,.int .i64 1,.int .i64 i,vb] 72)) _)
 have HB2:=Lib.hid hb1'
 have HX2:=Lib.hid (H.out.sub hb1').blk
 clear hb1'
 go_wp2_with (first | ((with_reducible refine gate_ (.store 24 (.tmp 23) (.tmp 21)) rfl ?_); (refine store_F (fun wz => PAt wz B gp ge own (X.set 1 (bootS (X.sd 1))) lv wv ∧ Kept w wz (fun k => k = gp) ∧ Below B w wz) rfl rfl ⟨_,(by have hz1:World.cell? ((w.alloc (.cells #[.int .i64 kind,.int .i64 1,.int .i64 i,vb] 72)).drewN nq1) ⟨gp,10,none⟩ = some _:=(blk_cell HX2.out 10).trans rfl; have hz2:=blk_frozen HX2.out 10; first | (go_simp; done) | (go_simp; rfl)),(H.out.sub HB2.out).newboot (s:=1) (by decide),Kept.setCell (S:=fun k => k = gp) (p:=⟨gp,10,none⟩) (Kept.of_below HB2.out _) (.inl rfl) _,(HB2.out.mono H.out.hB).setCell (p:=⟨gp,10,none⟩) H.out.low _⟩ (fun w3 hF => ?_)); (have HP3:=Lib.hid hF.1); (have HK3:=Lib.hid hF.2.1); (have HB3:=Lib.hid hF.2.2); (have hc3:w3.cell? ⟨gp,10,none⟩ = some (.int .u32 ((X.sd 1).boot + 1)):=(blk_cell HP3.out.blk 10).trans rfl); (clear hF hc1 hc2)) | (go_at_call 26; (have hc9:=new_of ((X.sd 1).boot + 1) HBT.out w3 B HP3.out.hB); (with_reducible refine hc9.mono ?_); clear hc9; rintro e w4 ⟨rfl,hA,hb4⟩; (have HA4:=Lib.hid hA); (have HB4:=Lib.hid hb4); (have HX4:=Lib.hid (HP3.out.sub hb4).blk); (clear hA hb4 hc3)) | ((with_reducible refine gate_ (.store 46 (.tmp 34) (.tmp 31)) rfl ?_); (refine store_F (fun wz => PAt wz B gp (fun t => if t = 1 then w3.heap.size else ge t) (fun j k => own j k ∨ j = 2 ∧ k = w3.heap.size) ((X.set 1 (bootS (X.sd 1))).set 1 (endF ((X.set 1 (bootS (X.sd 1))).sd 1) (newL ((X.sd 1).boot + 1)))) lv wv ∧ Kept w wz (fun k => k = gp) ∧ Below B w wz) rfl rfl ⟨_,(by have hz1:World.cell? w4 ⟨gp,9,none⟩ = some _:=(blk_cell HX4.out 9).trans rfl; have hz2:=blk_frozen HX4.out 9; first | (go_simp; done) | (go_simp; rfl)),HP3.out.newend (s:=1) (by decide) HA4.out HB4.out (Nat.le_refl _),Kept.setCell (S:=fun k => k = gp) (p:=⟨gp,9,none⟩) (HK3.out.below HB4.out) (.inl rfl) _,(HB3.out.trans (HB4.out.mono HP3.out.hB)).setCell (p:=⟨gp,9,none⟩) H.out.low _⟩ (fun w5 hF => ?_)); (have hP5:=hF.1); (rw [Pr.set_eq,Pr.set_set] at hP5); (have HP5:=Lib.hid hP5); (have HK5:=Lib.hid hF.2.1); (have HB5:=Lib.hid hF.2.2); (clear hF hP5)))
 obtain ⟨Al,cl,hlv⟩:=Kd.R_slice (H.out.l 1 (by decide))
 have HLV:=Lib.hid hlv
 clear hlv
 obtain ⟨ge5,hge5⟩:∃ g,g = (fun t => if t = 1 then w3.heap.size else ge t):=⟨_,rfl⟩
 obtain ⟨own5,how5⟩:∃ g,g = (fun j k => own j k ∨ j = 2 ∧ k = w3.heap.size):=⟨_,rfl⟩
 have hP5:=HP5.out
 rw [← hge5,← how5] at hP5
 have HQ5:=Lib.hid hP5
 have HU5:=Lib.hid (show ∀ i k,own5 i k → newer U w k from fun i k hx => by
  rw [how5] at hx
  exact hx.elim (fun y => .inl (HU.out i k y)) (fun y => .inr (by have:=HK3.out.1; omega)))
 clear HP5 hP5 hge5 how5 HX4 HA4 HB4
 have hSS:w5.drew.heap[gp]? = some (.cells (prow (X.set 1 (endF (bootS (X.sd 1)) (newL ((X.sd 1).boot + 1)))) ge5 lv wv) 143 (0,0)):=HQ5.out.blk
 have hbd:=bl_drew (Below.refl w5.heap.size w5)
 refine start_ (n:=15) (S:=fun w' => w'.heap[gp]? = some (.cells (prow (X.set 1 (endF (bootS (X.sd 1)) (newL ((X.sd 1).boot + 1)))) ge5 lv wv) 143 (0,0))) (ds:=[14]) M01 (by kernel_rfl) rfl rfl (hSS) (fun hHeld => ?_)
 generalize w5.drew = w6 at hbd hHeld ⊢
 have HBD:=Lib.hid hbd
 clear hbd
 refine pure_ (i:=0) (N:=some 35) (v:=?_) (a':=?_) M02 rfl rfl (by kernel_rfl) (fun _ _ _ h => h) (Or.inl ⟨by rfl,?_⟩) ?_ ?_
 rotate_left
 ·intro w'
  go_simp
  with_reducible rfl
 rotate_left
 ·simp only [Act.put,sA,sZ,sS]
  rfl
 refine pure_ (i:=1) (N:=some 36) (v:=?_) (a':=?_) M03 rfl rfl (by kernel_rfl) (fun _ _ _ h => h) (Or.inl ⟨by rfl,?_⟩) ?_ ?_
 rotate_left
 ·intro w'
  go_simp
  with_reducible rfl
 rotate_left
 ·simp only [Act.put,sA,sZ,sS]
  rfl
 refine pure_ (i:=2) (N:=some 37) (v:=?_) (a':=?_) M04 rfl rfl (by kernel_rfl) (fun _ _ _ h => h) (Or.inl ⟨by rfl,?_⟩) ?_ ?_
 rotate_left
 ·intro w'
  go_simp
  with_reducible rfl
 rotate_left
 ·simp only [Act.put,sA,sZ,sS]
  rfl
 refine pure_ (i:=3) (N:=some 38) (v:=?_) (a':=?_) M05 rfl rfl (by kernel_rfl) (fun _ _ _ h => h) (Or.inl ⟨by rfl,?_⟩) ?_ ?_
 rotate_left
 ·intro w'
  go_simp
  with_reducible rfl
 rotate_left
 ·simp only [Act.put,sA,sZ,sS]
  rfl
 refine take_ (i:=4) (N:=some 39) (v:=?_) (a':=?_) M06 rfl rfl (by kernel_rfl) (fun _ _ _ h => h) (Or.inl ⟨by rfl,?_⟩) hHeld ?_ ?_
 rotate_left
 ·intro w' s0
  have hcl:w'.cell? ⟨gp,11,none⟩ = some (.slice Al (X.sd 1).log.length cl):=(blk_cell s0 11).trans (by rw [← HLV.out]; rfl)
  clear s0
  go_simp
  with_reducible rfl
 rotate_left
 ·simp only [Act.put,sA,sZ,sS]
  rfl
 refine pure_ (i:=5) (N:=some 40) (v:=?_) (a':=?_) M07 rfl rfl (by kernel_rfl) (fun _ _ _ h => h) (Or.inl ⟨by rfl,?_⟩) ?_ ?_
 rotate_left
 ·intro w'
  go_simp
  with_reducible rfl
 rotate_left
 ·simp only [Act.put,sA,sZ,sS]
  rfl
 refine pure_ (i:=6) (N:=some 41) (v:=?_) (a':=?_) M08 rfl rfl (by kernel_rfl) (fun _ _ _ h => h) (Or.inl ⟨by rfl,?_⟩) ?_ ?_
 rotate_left
 ·intro w'
  go_simp
  with_reducible rfl
 rotate_left
 ·simp only [Act.put,sA,sZ,sS]
  rfl
 refine pure_ (i:=7) (N:=some 42) (v:=?_) (a':=?_) M09 rfl rfl (by kernel_rfl) (fun _ _ _ h => h) (Or.inl ⟨by rfl,?_⟩) ?_ ?_
 rotate_left
 ·intro w'
  go_simp
  with_reducible rfl
 rotate_left
 ·simp only [Act.put,sA,sZ,sS]
  rfl
 refine take_ (i:=8) (N:=some 43) (v:=?_) (a':=?_) M0a rfl rfl (by kernel_rfl) (fun _ _ _ h => h) (Or.inl ⟨by rfl,?_⟩) hHeld ?_ ?_
 rotate_left
 ·intro w' s0
  have hcb:w'.cell? ⟨gp,10,none⟩ = some (.int .u32 ((X.sd 1).boot + 1)):=(blk_cell s0 10).trans rfl
  clear s0
  go_simp
  with_reducible rfl
 rotate_left
 ·simp only [Act.put,sA,sZ,sS]
  rfl
 refine pure_ (i:=9) (N:=some 44) (v:=?_) (a':=?_) M0b rfl rfl (by kernel_rfl) (fun _ _ _ h => h) (Or.inl ⟨by rfl,?_⟩) ?_ ?_
 rotate_left
 ·intro w'
  go_simp
  rfl
 rotate_left
 ·simp only [Act.put,sA,sZ,sS]
  rfl
 refine one_ (i:=10) (N:=some 45) M0c rfl rfl (by kernel_rfl) (by decide) (fun K hK => ?_)
 refine value_ (v:=.slice (some ⟨w6.heap.size,0,none⟩) 1 1) (by rfl) rfl (w1:=w6.alloc (.cells #[.int .i64 5,.int .u32 ((X.sd 1).boot + 1),.int .u32 0,.int .u32 0,.int .u32 0,.slice none 0 0] 67)) ?_ ?_
 ·first | (go_simp; done) | (go_simp; rfl)
 have hb2:=(Below.refl w6.heap.size w6).alloc (Nat.le_refl _) (.cells #[.int .i64 5,.int .u32 ((X.sd 1).boot + 1),.int .u32 0,.int .u32 0,.int .u32 0,.slice none 0 0] 67)
 refine hK.out _ _ ((hb2.block gp (blk_lt hHeld)).trans hHeld) (fun hHeld => ?_)
 clear hK K hb2
 refine norm_ (a':=?_) ?_ ?_
 rotate_left
 ·show Act.put _ (some 45) _ = _
  simp only [Act.put,sA,sZ,sS]
  rfl
 refine one_ (i:=11) (N:=some 46) M0d rfl rfl (by kernel_rfl) (by decide) (fun K hK => ?_)
 have hQ6:=HQ5.out.sub HBD.out
 have hl6:ent.R 67 w6 B (own5 4) (lv 1) (X.sd 1).log:=by have hx:=hQ6.l 1 (by decide); rw [Pr.set_eq] at hx; exact hx
 have hM6:ent.M w6 B (fun _ => False) (bootE (X.sd 1)) (ecells (bootE (X.sd 1)) (.slice none 0 0)):=ent_M.2 ⟨_,rfl,Kd.R_nil _ _ _ _ _⟩
 refine Kd.R_append_step ent (w0:=w5) (W:=w6) B ?hw (.tmp 39) (.tmp 45) 64 67 (.agg #[.int .i64 0,.int .u32 0,.int .u32 0,.int .u32 0,.int .u32 0,.slice none 0 0]) 48 ?ho Try.underlying64 info67 ?hz ?hs0 ?hb0 (lv 1) (X.sd 1).log (bootE (X.sd 1)) (ecells (bootE (X.sd 1)) (.slice none 0 0)) (fun k => own5 4 k ∨ w5.heap.size ≤ k) (fun k => False ∧ some k ≠ (lv 1).ownBlock) ?hs ?hx (ent_free hM6 hl6) ?hokp ?hf (Kd.R_mono hl6 (fun _ hk => .inl hk)) (HBD.out.mono HQ5.out.hB) hQ6.hB ?hl ?hk
 case hw => rfl
 case ho => rfl
 case hz => rfl
 case hs0 => decide
 case hb0 => decide
 case hs => rw [HLV.out]; rfl
 case hx => rfl
 case hokp => exact fun k hk => hk.1.elim
 case hf => exact fun k hk => .inr (by have:=HBD.out.size; omega)
 case hl => have:=HLL.out; omega
 intro o1 w7 hR hbl hg _
 obtain ⟨A7,c7,ho1⟩:=Kd.R_slice hR
 generalize ((X.sd 1).log ++ [bootE (X.sd 1)]).length = n7 at ho1
 subst ho1
 have hK7:Kept w5 w7 (own5 4):=Kept.of_grown hg (Kept.of_below HBD.out _) (fun k hk => .inl (hl6.1 k hk))
 have hX7:w7.heap[gp]? = some (.cells (prow (X.set 1 (endF (bootS (X.sd 1)) (newL ((X.sd 1).boot + 1)))) ge5 lv wv) 143 (0,0)):=blk_kept HQ5.out.blk hK7 (HQ5.out.gp0 _)
 have HX7:=Lib.hid hX7
 have HR7:=Lib.hid hR
 have HK7:=Lib.hid hK7
 have HBl7:=Lib.hid hbl
 clear hR hbl hg hK7 hQ6 hM6 hl6 hHeld
 refine hK.out _ _ hX7 (fun hHeld => ?_)
 clear hK K hX7
 refine norm_ (a':=?_) ?_ ?_
 rotate_left
 ·show Act.put _ (some 46) _ = _
  simp only [Act.put,sA,sZ,sS]
  rfl
 refine pure_ (i:=12) (N:=some 47) (v:=?_) (a':=?_) M00 rfl rfl (by kernel_rfl) (fun _ _ _ h => h) (Or.inl ⟨by rfl,?_⟩) ?_ ?_
 rotate_left
 ·intro w'
  go_simp
  with_reducible rfl
 rotate_left
 ·simp only [Act.put,sA,sZ,sS]
  rfl
 refine pure_ (i:=13) (N:=some 48) (v:=?_) (a':=?_) M0e rfl rfl (by kernel_rfl) (fun _ _ _ h => h) (Or.inl ⟨by rfl,?_⟩) ?_ ?_
 rotate_left
 ·intro w'
  go_simp
  with_reducible rfl
 rotate_left
 ·simp only [Act.put,sA,sZ,sS]
  rfl
 refine last_ (i:=14) (N:=none) M0f rfl rfl (by kernel_rfl) (by decide) (fun K hK => ?_)
 have hz1:w7.cell? ⟨gp,11,none⟩ = some _:=(blk_cell HX7.out 11).trans rfl
 have hz2:=blk_frozen HX7.out 11
 refine skip_F (fun wz => WTurn w B gp U ((X.set 1 (endF (bootS (X.sd 1)) (newL ((X.sd 1).boot + 1)))).set 1 { (X.set 1 (endF (bootS (X.sd 1)) (newL ((X.sd 1).boot + 1)))).sd 1 with log:=(X.sd 1).log ++ [bootE (X.sd 1)] }) wz) (by rfl) rfl ⟨_,by first | (go_simp; done) | (go_simp; rfl),reboot_end (s:=1) (by decide) HQ5.out HU5.out HK5.out HB5.out HK7.out HR7.out HBl7.out⟩ (fun w8 hF => ?_)
 rw [Pr.set_eq,Pr.set_set] at hF
 have HF:=Lib.hid hF
 clear hF hz1 hz2 hHeld
 refine hK.out _ _ ?_
 clear hK K
 refine done_ (by kernel_rfl) ?_
 go_wp2_with fail
 all_goals (go_ret; exact ⟨rfl,HF.out⟩)
end Go.Proofs.Ytnkkgofpifhoeaa.Pr
end
