/- What the laws of a pair are proved with: links and pairs in memory, what their methods do, what a pair keeps to (part 6). -/
import Derived.Test.YtnkkgofpifhoeaaPD5
set_option linter.unusedSimpArgs false
set_option linter.unusedVariables false
section
namespace Go.Proofs.Ytnkkgofpifhoeaa.Pr
open Go.RowKit Go.Proofs.Ytnkkgofpifhoeaa.Base Go.Proofs.Ytnkkgofpifhoeaa.Steps Go.Proofs.Ytnkkgofpifhoeaa.Lk Go.Proofs.Ytnkkgofpifhoeaa.Win Go.Proofs.YtnkkgofpifhoeaaW.PrintWords Go.Proofs.YtnkkgofpifhoeaaW.PrintLast
theorem zero144 (w:World):(zeroValue 144).run Try.prog w = .ok .nilFunc w:=by kernel_rfl
theorem found_no {k:Int} (h:k < 1 ∨ 8 < k):foundF actsE8 k = some none:=by
 have b1:(k == 1) = false:=by simp; omega
 have b2:(k == 2) = false:=by simp; omega
 have b3:(k == 3) = false:=by simp; omega
 have b4:(k == 4) = false:=by simp; omega
 have b5:(k == 5) = false:=by simp; omega
 have b6:(k == 6) = false:=by simp; omega
 have b7:(k == 7) = false:=by simp; omega
 have b8:(k == 8) = false:=by simp; omega
 simp [foundF,actsE8,actsE7,actsE6,actsE5,actsE4,actsE3,actsE2,actsE1,actsE0,putF,Instr.findNow,Instr.sameNow,b1,b2,b3,b4,b5,b6,b7,b8]
theorem look_no {w:World} {r:Nat} (hb:w.heap[r]? = some (.map actsE8 8)) {k:Int} (h:k < 1 ∨ 8 < k):(Instr.lookup 146 (.map (some r)) (.int .i64 k) true).run Try.prog w = .ok (.tuple #[.nilFunc,.bool false]) w:=by
 have h:=found_no h
 unfold foundF at h
 simp [Instr.lookup,run_underlying Try.underlying146,MapKept.run_getObj_map hb,MapKept.run_checkKey Try.underlying3 (key_int k),MapKept.run_findKey Try.underlying3 h,zero144,Result.andThen]
set_option maxRecDepth 100000 in
set_option maxHeartbeats 4000000 in
theorem do_e1 {w:World} {B gp:Nat} {ge:Nat → Nat} {own:Nat → Nat → Prop} {X:Pr} {lv:Nat → Value} {wv:Value} (h:PAt w B gp ge own X lv wv) (kind side i:Int) (hg1:kind < 1 ∨ 8 < kind) (Ab:Option Addr) (nb cb:Nat) :
  Calls Try.prog 41 #[.pointer (some ⟨gp,0,none⟩),.agg #[.int .i64 kind,.int .i64 side,.int .i64 i,.slice Ab nb cb]] w fun e w' => e = .returned (.int .i64 121) ∧ Below w.heap.size w w':=by
 have hba:Below w.heap.size w (w.alloc (.cells #[.int .i64 kind,.int .i64 side,.int .i64 i,.slice Ab nb cb] 72)):=(Below.refl _ _).alloc (Nat.le_refl _) _
 have hSS:(w.alloc (.cells #[.int .i64 kind,.int .i64 side,.int .i64 i,.slice Ab nb cb] 72)).drew.heap[w.heap.size]? = some (.cells #[.int .i64 kind,.int .i64 side,.int .i64 i,.slice Ab nb cb] 72 (0,0)):=heap_alloc_new w _
 obtain ⟨Aw,cw,_,hwv,_⟩:=h.way.reads
 subst hwv
 have HSS:=Lib.hid hSS
 have HBD0:=Lib.hid (bl_drew hba)
 have H:=Lib.hid h
 have HG:=Lib.hid hg1
 clear h hba hSS
 go_enter Try.func41,Try.ntmps41
 go_wp2_with fail
 have hSS:=HSS.out
 have hbd:=HBD0.out
 clear HSS HBD0
 refine start_ (n:=9) (S:=fun w' => w'.heap[w.heap.size]? = some (.cells #[.int .i64 kind,.int .i64 side,.int .i64 i,.slice Ab nb cb] 72 (0,0))) (ds:=[]) M0L (by kernel_rfl) rfl rfl (hSS) (fun hHeld => ?_)
 generalize (w.alloc (.cells #[.int .i64 kind,.int .i64 side,.int .i64 i,.slice Ab nb cb] 72)).drew = w2 at hbd hHeld ⊢
 have HBD:=Lib.hid hbd
 clear hbd
 refine pure_ (i:=1) (N:=some 15) (v:=?_) (a':=?_) M17 rfl rfl (by kernel_rfl) (fun _ _ _ h => h) (Or.inl ⟨by rfl,?_⟩) ?_ ?_
 rotate_left
 ·intro w'
  go_simp
  with_reducible rfl
 rotate_left
 ·simp only [Act.put,sA,sZ,sS]
  rfl
 refine take_ (i:=2) (N:=some 16) (v:=?_) (a':=?_) M18 rfl rfl (by kernel_rfl) (fun _ _ _ h => h) (Or.inl ⟨by rfl,?_⟩) hHeld ?_ ?_
 rotate_left
 ·intro w' s0
  have hc0:w'.cell? ⟨w.heap.size,0,none⟩ = some (.int .i64 kind):=(blk_cell s0 0).trans rfl
  clear s0
  go_simp
  with_reducible rfl
 rotate_left
 ·simp only [Act.put,sA,sZ,sS]
  rfl
 refine one_ (i:=0) (N:=some 14) M0Q rfl rfl (by kernel_rfl) (by decide) (fun K hK => ?_)
 refine goes_ Try.func82 (by kernel_rfl) rfl #[] (by rfl) rfl rfl (by (try simp only [List.map_toArray,List.map_cons,List.map_nil]); first | done | rfl) ?_
 refine (acts_of w2).mono ?_
 rintro e w3 ⟨rfl,hmap,hb3⟩
 refine ⟨_,rfl,?_⟩
 have hS3:w3.heap[w.heap.size]? = some (.cells #[.int .i64 kind,.int .i64 side,.int .i64 i,.slice Ab nb cb] 72 (0,0)):=(hb3.block _ (blk_lt hHeld)).trans hHeld
 have HMAP:=Lib.hid hmap
 have HB3:=Lib.hid (HBD.out.trans (hb3.mono HBD.out.size))
 have HS3:=Lib.hid hS3
 generalize w2.heap.size = gm at *
 clear hmap hb3 hHeld
 refine hK.out _ _ hS3 (fun hHeld => ?_)
 clear hK K hS3
 refine norm_ (a':=?_) ?_ ?_
 rotate_left
 ·show Act.put _ (some 14) _ = _
  simp only [Act.put,sA,sZ,sS]
  rfl
 refine one_ (i:=3) (N:=some 17) M0S rfl rfl (by kernel_rfl) (by decide) (fun K hK => ?_)
 have hlk:=look_no HMAP.out HG.out
 refine value_ (v:=.tuple #[.nilFunc,.bool false]) (by rfl) rfl (w1:=w3) (by first | (go_simp; done) | (go_simp; rfl)) ?_
 clear hlk
 refine hK.out _ _ hHeld (fun hHeld => ?_)
 clear hK K
 refine norm_ (a':=?_) ?_ ?_
 rotate_left
 ·show Act.put _ (some 17) _ = _
  simp only [Act.put,sA,sZ,sS]
  rfl
 refine pure_ (i:=4) (N:=some 13) (v:=?_) (a':=?_) M0V rfl rfl (by kernel_rfl) (fun _ _ _ h => h) (Or.inl ⟨by rfl,?_⟩) ?_ ?_
 rotate_left
 ·intro w'
  go_simp
  with_reducible rfl
 rotate_left
 ·simp only [Act.put,sA,sZ,sS]
  rfl
 refine pure_ (i:=5) (N:=some 18) (v:=?_) (a':=?_) M0X rfl rfl (by kernel_rfl) (fun _ _ _ h => h) (Or.inl ⟨by rfl,?_⟩) ?_ ?_
 rotate_left
 ·intro w'
  go_simp
  with_reducible rfl
 rotate_left
 ·simp only [Act.put,sA,sZ,sS]
  rfl
 refine pure_ (i:=6) (N:=some 19) (v:=?_) (a':=?_) M10 rfl rfl (by kernel_rfl) (fun _ _ _ h => h) (Or.inl ⟨by rfl,?_⟩) ?_ ?_
 rotate_left
 ·intro w'
  go_simp
  with_reducible rfl
 rotate_left
 ·simp only [Act.put,sA,sZ,sS]
  rfl
 refine pure_ (i:=7) (N:=some 5) (v:=?_) (a':=?_) M11 rfl rfl (by kernel_rfl) (fun _ _ _ h => h) (Or.inl ⟨by rfl,?_⟩) ?_ ?_
 rotate_left
 ·intro w'
  go_simp
  with_reducible rfl
 rotate_left
 ·simp only [Act.put,sA,sZ,sS]
  rfl
 refine pure_ (i:=8) (N:=some 6) (v:=?_) (a':=?_) M12 rfl rfl (by kernel_rfl) (fun _ _ _ h => h) (Or.inl ⟨by rfl,?_⟩) ?_ ?_
 rotate_left
 ·intro w'
  go_simp
  with_reducible rfl
 rotate_left
 ·simp only [Act.put,sA,sZ,sS]
  rfl
 refine done_ (by kernel_rfl) ?_
 clear hHeld
 have hk0:w3.cell? ⟨w.heap.size,0,none⟩ = some (.int .i64 kind):=(blk_cell HS3.out 0).trans rfl
 have hk1:w3.cell? ⟨w.heap.size,1,none⟩ = some (.int .i64 side):=(blk_cell HS3.out 1).trans rfl
 have hk2:w3.cell? ⟨w.heap.size,2,none⟩ = some (.int .i64 i):=(blk_cell HS3.out 2).trans rfl
 have hk3:w3.cell? ⟨w.heap.size,3,none⟩ = some (.slice Ab nb cb):=(blk_cell HS3.out 3).trans rfl
 have hw18:w3.cell? ⟨gp,18,none⟩ = some (.slice Aw X.way.length cw):=(blk_cell (H.out.sub HB3.out).blk 18).trans rfl
 go_wp2_with fail
 all_goals (go_ret; exact ⟨rfl,HB3.out⟩)
set_option maxRecDepth 100000 in
set_option maxHeartbeats 4000000 in
theorem do_e2 {w:World} {B gp:Nat} {ge:Nat → Nat} {own:Nat → Nat → Prop} {X:Pr} {lv:Nat → Value} {wv:Value} (h:PAt w B gp ge own X lv wv) (kind side i:Int) (fn:FuncId) (hg1:kind < 6) (hs0:side ≠ 0) (hs1:side ≠ 1) (Ab:Option Addr) (nb cb:Nat) (hlook:∀ (W:World) (r:Nat),W.heap[r]? = some (.map actsE8 8) → (Instr.lookup 146 (.map (some r)) (.int .i64 kind) true).run Try.prog W = .ok (.tuple #[.func (.func fn) #[] #[],.bool true]) W) :
  Calls Try.prog 41 #[.pointer (some ⟨gp,0,none⟩),.agg #[.int .i64 kind,.int .i64 side,.int .i64 i,.slice Ab nb cb]] w fun e w' => e = .returned (.int .i64 120) ∧ Below w.heap.size w w':=by
 have hba:Below w.heap.size w (w.alloc (.cells #[.int .i64 kind,.int .i64 side,.int .i64 i,.slice Ab nb cb] 72)):=(Below.refl _ _).alloc (Nat.le_refl _) _
 have hSS:(w.alloc (.cells #[.int .i64 kind,.int .i64 side,.int .i64 i,.slice Ab nb cb] 72)).drew.heap[w.heap.size]? = some (.cells #[.int .i64 kind,.int .i64 side,.int .i64 i,.slice Ab nb cb] 72 (0,0)):=heap_alloc_new w _
 obtain ⟨Aw,cw,_,hwv,_⟩:=h.way.reads
 subst hwv
 have HSS:=Lib.hid hSS
 have HBD0:=Lib.hid (bl_drew hba)
 have H:=Lib.hid h
 have HLOOK:=Lib.hid hlook
 clear h hba hSS hlook
 go_enter Try.func41,Try.ntmps41
 go_wp2_with fail
 have hSS:=HSS.out
 have hbd:=HBD0.out
 clear HSS HBD0
 refine start_ (n:=9) (S:=fun w' => w'.heap[w.heap.size]? = some (.cells #[.int .i64 kind,.int .i64 side,.int .i64 i,.slice Ab nb cb] 72 (0,0))) (ds:=[]) M0L (by kernel_rfl) rfl rfl (hSS) (fun hHeld => ?_)
 generalize (w.alloc (.cells #[.int .i64 kind,.int .i64 side,.int .i64 i,.slice Ab nb cb] 72)).drew = w2 at hbd hHeld ⊢
 have HBD:=Lib.hid hbd
 clear hbd
 refine pure_ (i:=1) (N:=some 15) (v:=?_) (a':=?_) M17 rfl rfl (by kernel_rfl) (fun _ _ _ h => h) (Or.inl ⟨by rfl,?_⟩) ?_ ?_
 rotate_left
 ·intro w'
  go_simp
  with_reducible rfl
 rotate_left
 ·simp only [Act.put,sA,sZ,sS]
  rfl
 refine take_ (i:=2) (N:=some 16) (v:=?_) (a':=?_) M18 rfl rfl (by kernel_rfl) (fun _ _ _ h => h) (Or.inl ⟨by rfl,?_⟩) hHeld ?_ ?_
 rotate_left
 ·intro w' s0
  have hc0:w'.cell? ⟨w.heap.size,0,none⟩ = some (.int .i64 kind):=(blk_cell s0 0).trans rfl
  clear s0
  go_simp
  with_reducible rfl
 rotate_left
 ·simp only [Act.put,sA,sZ,sS]
  rfl
 refine one_ (i:=0) (N:=some 14) M0Q rfl rfl (by kernel_rfl) (by decide) (fun K hK => ?_)
 refine goes_ Try.func82 (by kernel_rfl) rfl #[] (by rfl) rfl rfl (by (try simp only [List.map_toArray,List.map_cons,List.map_nil]); first | done | rfl) ?_
 refine (acts_of w2).mono ?_
 rintro e w3 ⟨rfl,hmap,hb3⟩
 refine ⟨_,rfl,?_⟩
 have hS3:w3.heap[w.heap.size]? = some (.cells #[.int .i64 kind,.int .i64 side,.int .i64 i,.slice Ab nb cb] 72 (0,0)):=(hb3.block _ (blk_lt hHeld)).trans hHeld
 have HMAP:=Lib.hid hmap
 have HB3:=Lib.hid (HBD.out.trans (hb3.mono HBD.out.size))
 have HS3:=Lib.hid hS3
 generalize w2.heap.size = gm at *
 clear hmap hb3 hHeld
 refine hK.out _ _ hS3 (fun hHeld => ?_)
 clear hK K hS3
 refine norm_ (a':=?_) ?_ ?_
 rotate_left
 ·show Act.put _ (some 14) _ = _
  simp only [Act.put,sA,sZ,sS]
  rfl
 refine one_ (i:=3) (N:=some 17) M0S rfl rfl (by kernel_rfl) (by decide) (fun K hK => ?_)
 have hlk:=HLOOK.out w3 gm HMAP.out
 refine value_ (v:=.tuple #[.func (.func fn) #[] #[],.bool true]) (by rfl) rfl (w1:=w3) (by first | (go_simp; done) | (go_simp; rfl)) ?_
 clear hlk
 refine hK.out _ _ hHeld (fun hHeld => ?_)
 clear hK K
 refine norm_ (a':=?_) ?_ ?_
 rotate_left
 ·show Act.put _ (some 17) _ = _
  simp only [Act.put,sA,sZ,sS]
  rfl
 refine pure_ (i:=4) (N:=some 13) (v:=?_) (a':=?_) M0V rfl rfl (by kernel_rfl) (fun _ _ _ h => h) (Or.inl ⟨by rfl,?_⟩) ?_ ?_
 rotate_left
 ·intro w'
  go_simp
  with_reducible rfl
 rotate_left
 ·simp only [Act.put,sA,sZ,sS]
  rfl
 refine pure_ (i:=5) (N:=some 18) (v:=?_) (a':=?_) M0X rfl rfl (by kernel_rfl) (fun _ _ _ h => h) (Or.inl ⟨by rfl,?_⟩) ?_ ?_
 rotate_left
 ·intro w'
  go_simp
  with_reducible rfl
 rotate_left
 ·simp only [Act.put,sA,sZ,sS]
  rfl
 refine pure_ (i:=6) (N:=some 19) (v:=?_) (a':=?_) M10 rfl rfl (by kernel_rfl) (fun _ _ _ h => h) (Or.inl ⟨by rfl,?_⟩) ?_ ?_
 rotate_left
 ·intro w'
  go_simp
  with_reducible rfl
 rotate_left
 ·simp only [Act.put,sA,sZ,sS]
  rfl
 refine pure_ (i:=7) (N:=some 5) (v:=?_) (a':=?_) M11 rfl rfl (by kernel_rfl) (fun _ _ _ h => h) (Or.inl ⟨by rfl,?_⟩) ?_ ?_
 rotate_left
 ·intro w'
  go_simp
  with_reducible rfl
 rotate_left
 ·simp only [Act.put,sA,sZ,sS]
  rfl
 refine pure_ (i:=8) (N:=some 6) (v:=?_) (a':=?_) M12 rfl rfl (by kernel_rfl) (fun _ _ _ h => h) (Or.inl ⟨by rfl,?_⟩) ?_ ?_
 rotate_left
 ·intro w'
  go_simp
  with_reducible rfl
 rotate_left
 ·simp only [Act.put,sA,sZ,sS]
  rfl
 refine done_ (by kernel_rfl) ?_
 clear hHeld
 have hk0:w3.cell? ⟨w.heap.size,0,none⟩ = some (.int .i64 kind):=(blk_cell HS3.out 0).trans rfl
 have hk1:w3.cell? ⟨w.heap.size,1,none⟩ = some (.int .i64 side):=(blk_cell HS3.out 1).trans rfl
 have hk2:w3.cell? ⟨w.heap.size,2,none⟩ = some (.int .i64 i):=(blk_cell HS3.out 2).trans rfl
 have hk3:w3.cell? ⟨w.heap.size,3,none⟩ = some (.slice Ab nb cb):=(blk_cell HS3.out 3).trans rfl
 have hw18:w3.cell? ⟨gp,18,none⟩ = some (.slice Aw X.way.length cw):=(blk_cell (H.out.sub HB3.out).blk 18).trans rfl
 have hg6:decide (kind < 6) = true:=by simp [hg1]
 have hq0:(side != 0) = true:=by simp [hs0]
 have hq1:(side != 1) = true:=by simp [hs1]
 go_wp2_with fail
 all_goals (go_ret; exact ⟨rfl,HB3.out⟩)
set_option maxRecDepth 100000 in
set_option maxHeartbeats 4000000 in
theorem do_e3 {w:World} {B gp:Nat} {ge:Nat → Nat} {own:Nat → Nat → Prop} {X:Pr} {lv:Nat → Value} {wv:Value} (h:PAt w B gp ge own X lv wv) (kind side i:Int) (fn:FuncId) (hg1:¬ kind < 6) (hi:i < 0 ∨ (X.way.length:Int) ≤ i) (Ab:Option Addr) (nb cb:Nat) (hlook:∀ (W:World) (r:Nat),W.heap[r]? = some (.map actsE8 8) → (Instr.lookup 146 (.map (some r)) (.int .i64 kind) true).run Try.prog W = .ok (.tuple #[.func (.func fn) #[] #[],.bool true]) W) :
  Calls Try.prog 41 #[.pointer (some ⟨gp,0,none⟩),.agg #[.int .i64 kind,.int .i64 side,.int .i64 i,.slice Ab nb cb]] w fun e w' => e = .returned (.int .i64 122) ∧ Below w.heap.size w w':=by
 have hba:Below w.heap.size w (w.alloc (.cells #[.int .i64 kind,.int .i64 side,.int .i64 i,.slice Ab nb cb] 72)):=(Below.refl _ _).alloc (Nat.le_refl _) _
 have hSS:(w.alloc (.cells #[.int .i64 kind,.int .i64 side,.int .i64 i,.slice Ab nb cb] 72)).drew.heap[w.heap.size]? = some (.cells #[.int .i64 kind,.int .i64 side,.int .i64 i,.slice Ab nb cb] 72 (0,0)):=heap_alloc_new w _
 obtain ⟨Aw,cw,_,hwv,_⟩:=h.way.reads
 subst hwv
 have HSS:=Lib.hid hSS
 have HBD0:=Lib.hid (bl_drew hba)
 have H:=Lib.hid h
 have HLOOK:=Lib.hid hlook
 clear h hba hSS hlook
 go_enter Try.func41,Try.ntmps41
 go_wp2_with fail
 have hSS:=HSS.out
 have hbd:=HBD0.out
 clear HSS HBD0
 refine start_ (n:=9) (S:=fun w' => w'.heap[w.heap.size]? = some (.cells #[.int .i64 kind,.int .i64 side,.int .i64 i,.slice Ab nb cb] 72 (0,0))) (ds:=[]) M0L (by kernel_rfl) rfl rfl (hSS) (fun hHeld => ?_)
 generalize (w.alloc (.cells #[.int .i64 kind,.int .i64 side,.int .i64 i,.slice Ab nb cb] 72)).drew = w2 at hbd hHeld ⊢
 have HBD:=Lib.hid hbd
 clear hbd
 refine pure_ (i:=1) (N:=some 15) (v:=?_) (a':=?_) M17 rfl rfl (by kernel_rfl) (fun _ _ _ h => h) (Or.inl ⟨by rfl,?_⟩) ?_ ?_
 rotate_left
 ·intro w'
  go_simp
  with_reducible rfl
 rotate_left
 ·simp only [Act.put,sA,sZ,sS]
  rfl
 refine take_ (i:=2) (N:=some 16) (v:=?_) (a':=?_) M18 rfl rfl (by kernel_rfl) (fun _ _ _ h => h) (Or.inl ⟨by rfl,?_⟩) hHeld ?_ ?_
 rotate_left
 ·intro w' s0
  have hc0:w'.cell? ⟨w.heap.size,0,none⟩ = some (.int .i64 kind):=(blk_cell s0 0).trans rfl
  clear s0
  go_simp
  with_reducible rfl
 rotate_left
 ·simp only [Act.put,sA,sZ,sS]
  rfl
 refine one_ (i:=0) (N:=some 14) M0Q rfl rfl (by kernel_rfl) (by decide) (fun K hK => ?_)
 refine goes_ Try.func82 (by kernel_rfl) rfl #[] (by rfl) rfl rfl (by (try simp only [List.map_toArray,List.map_cons,List.map_nil]); first | done | rfl) ?_
 refine (acts_of w2).mono ?_
 rintro e w3 ⟨rfl,hmap,hb3⟩
 refine ⟨_,rfl,?_⟩
 have hS3:w3.heap[w.heap.size]? = some (.cells #[.int .i64 kind,.int .i64 side,.int .i64 i,.slice Ab nb cb] 72 (0,0)):=(hb3.block _ (blk_lt hHeld)).trans hHeld
 have HMAP:=Lib.hid hmap
 have HB3:=Lib.hid (HBD.out.trans (hb3.mono HBD.out.size))
 have HS3:=Lib.hid hS3
 generalize w2.heap.size = gm at *
 clear hmap hb3 hHeld
 refine hK.out _ _ hS3 (fun hHeld => ?_)
 clear hK K hS3
 refine norm_ (a':=?_) ?_ ?_
 rotate_left
 ·show Act.put _ (some 14) _ = _
  simp only [Act.put,sA,sZ,sS]
  rfl
 refine one_ (i:=3) (N:=some 17) M0S rfl rfl (by kernel_rfl) (by decide) (fun K hK => ?_)
 have hlk:=HLOOK.out w3 gm HMAP.out
 refine value_ (v:=.tuple #[.func (.func fn) #[] #[],.bool true]) (by rfl) rfl (w1:=w3) (by first | (go_simp; done) | (go_simp; rfl)) ?_
 clear hlk
 refine hK.out _ _ hHeld (fun hHeld => ?_)
 clear hK K
 refine norm_ (a':=?_) ?_ ?_
 rotate_left
 ·show Act.put _ (some 17) _ = _
  simp only [Act.put,sA,sZ,sS]
  rfl
 refine pure_ (i:=4) (N:=some 13) (v:=?_) (a':=?_) M0V rfl rfl (by kernel_rfl) (fun _ _ _ h => h) (Or.inl ⟨by rfl,?_⟩) ?_ ?_
 rotate_left
 ·intro w'
  go_simp
  with_reducible rfl
 rotate_left
 ·simp only [Act.put,sA,sZ,sS]
  rfl
 refine pure_ (i:=5) (N:=some 18) (v:=?_) (a':=?_) M0X rfl rfl (by kernel_rfl) (fun _ _ _ h => h) (Or.inl ⟨by rfl,?_⟩) ?_ ?_
 rotate_left
 ·intro w'
  go_simp
  with_reducible rfl
 rotate_left
 ·simp only [Act.put,sA,sZ,sS]
  rfl
 refine pure_ (i:=6) (N:=some 19) (v:=?_) (a':=?_) M10 rfl rfl (by kernel_rfl) (fun _ _ _ h => h) (Or.inl ⟨by rfl,?_⟩) ?_ ?_
 rotate_left
 ·intro w'
  go_simp
  with_reducible rfl
 rotate_left
 ·simp only [Act.put,sA,sZ,sS]
  rfl
 refine pure_ (i:=7) (N:=some 5) (v:=?_) (a':=?_) M11 rfl rfl (by kernel_rfl) (fun _ _ _ h => h) (Or.inl ⟨by rfl,?_⟩) ?_ ?_
 rotate_left
 ·intro w'
  go_simp
  with_reducible rfl
 rotate_left
 ·simp only [Act.put,sA,sZ,sS]
  rfl
 refine pure_ (i:=8) (N:=some 6) (v:=?_) (a':=?_) M12 rfl rfl (by kernel_rfl) (fun _ _ _ h => h) (Or.inl ⟨by rfl,?_⟩) ?_ ?_
 rotate_left
 ·intro w'
  go_simp
  with_reducible rfl
 rotate_left
 ·simp only [Act.put,sA,sZ,sS]
  rfl
 refine done_ (by kernel_rfl) ?_
 clear hHeld
 have hk0:w3.cell? ⟨w.heap.size,0,none⟩ = some (.int .i64 kind):=(blk_cell HS3.out 0).trans rfl
 have hk1:w3.cell? ⟨w.heap.size,1,none⟩ = some (.int .i64 side):=(blk_cell HS3.out 1).trans rfl
 have hk2:w3.cell? ⟨w.heap.size,2,none⟩ = some (.int .i64 i):=(blk_cell HS3.out 2).trans rfl
 have hk3:w3.cell? ⟨w.heap.size,3,none⟩ = some (.slice Ab nb cb):=(blk_cell HS3.out 3).trans rfl
 have hw18:w3.cell? ⟨gp,18,none⟩ = some (.slice Aw X.way.length cw):=(blk_cell (H.out.sub HB3.out).blk 18).trans rfl
 have hg6:decide (kind < 6) = false:=by simp [hg1]
 have hg7:decide (kind ≥ 6) = true:=by simp; omega
 by_cases hi0:i < 0
 ·have hi1:decide (i < 0) = true:=by simp [hi0]
  go_wp2_with fail
  go_quiet (fail)
  rename Nat => nq1
  go_wp2_with fail
  all_goals (go_ret; exact ⟨rfl,bl_drewN HB3.out nq1⟩)
 ·have hi1:decide (i < 0) = false:=by simp; omega
  have hi2:decide (i ≥ (X.way.length:Int)) = true:=by simp; omega
  go_wp2_with fail
  go_quiet (fail)
  rename Nat => nq1
  go_wp2_with fail
  all_goals (go_ret; exact ⟨rfl,bl_drewN HB3.out nq1⟩)
end Go.Proofs.Ytnkkgofpifhoeaa.Pr
end
section
namespace Go.Proofs.Ytnkkgofpifhoeaa.Pr
open Go.RowKit Go.Proofs.Ytnkkgofpifhoeaa.Base Go.Proofs.Ytnkkgofpifhoeaa.Lk Go.Proofs.Ytnkkgofpifhoeaa.Win Go.Proofs.YtnkkgofpifhoeaaW.PrintWords
theorem WTurn.same {w w':World} {B gp:Nat} {U:Nat → Prop} {X:Pr} (h:Whole w B gp U X) (hb:Below w.heap.size w w'):WTurn w B gp U X w' :=
 ⟨(h.sub hb).mono (fun k hk => .inl hk),Kept.of_below hb _,hb.mono h.hB⟩
theorem take_forms {X:Pr} {N:Nat} (hI:Inv X N) {f:Fl} (hf:FlI X f):∃ L' hd,takeF (X.sd f.dst.toNat).end_ f.boot f.p = (L',⟨hd,false,false,[]⟩) ∨ takeF (X.sd f.dst.toNat).end_ f.boot f.p = (L',⟨hd,true,false,[]⟩) ∨ takeF (X.sd f.dst.toNat).end_ f.boot f.p = (L',⟨hd,false,true,[]⟩) ∨
  ∃ body,takeF (X.sd f.dst.toNat).end_ f.boot f.p = (L',⟨hd,false,false,body⟩) ∧ body.length ≤ 1000000 ∧ 0 < body.length:=by
 have hs:f.dst.toNat < 2:=by have:=hf.dst; omega
 have hd:=hI.p.side _ hs
 obtain ⟨hc,_⟩:=take_turn hd.fine.ok (hI.out _ hs) f.boot f.p
 have hgc:=good_cases hf.good
 have hgl:=hf.good.len
 generalize hL:(takeF (X.sd f.dst.toNat).end_ f.boot f.p).1 = L' at hc
 generalize hT:(takeF (X.sd f.dst.toNat).end_ f.boot f.p).2 = t at hc
 have hx:takeF (X.sd f.dst.toNat).end_ f.boot f.p = (L',t):=by rw [← hL,← hT]
 rw [hx]
 cases hc with
 | none _ => exact ⟨_,_,.inl rfl⟩
 | up h1 hk ha hm hss hy => exact ⟨_,_,.inr (.inl rfl)⟩
 | learn h1 hk ha hm hss hy => exact ⟨_,_,.inl rfl⟩
 | again h2 hk ha h0 hss hy => exact ⟨_,_,.inl rfl⟩
 | last h2 hk ha ht => exact ⟨_,_,.inr (.inr (.inl rfl))⟩
 | anew h2 hk ha ht hss hy => exact ⟨_,_,.inr (.inr (.inl rfl))⟩
 | signal h2 hk ha hm k hkk hxx hy =>
  by_cases hg:f.p.kind = 2 ∧ f.p.seq = (X.sd f.dst.toNat).end_.expected
  ·have hb:upB (X.sd f.dst.toNat).end_ f.p = f.p.body:=by unfold upB; rw [if_pos hg]
   rw [hb]
   exact ⟨_,_,.inr (.inr (.inr ⟨_,rfl,by omega,hgc.2 hg.1⟩))⟩
  ·have hb:upB (X.sd f.dst.toNat).end_ f.p = []:=by unfold upB; rw [if_neg hg]
   rw [hb]
   exact ⟨_,_,.inl rfl⟩
theorem deliver_w {w:World} {B gp N:Nat} {ge:Nat → Nat} {own:Nat → Nat → Prop} {X:Pr} {lv:Nat → Value} {wv:Value} (h:PAt w B gp ge own X lv wv) (hI:Inv X N) (hN:N ≤ 900000) (i:Nat) (hi:i < X.way.length) (kind side:Int) (vb:Value) :
  Calls Try.prog 112 #[.pointer (some ⟨gp,0,none⟩),.agg #[.int .i64 kind,.int .i64 side,.int .i64 (i:Int),vb]] w fun e w' => e = .returned (.int .i64 0) ∧ ∃ S:Nat → Prop,(∀ k,S k → k = gp ∨ ∃ j,own j k) ∧ Moves w B gp ge own (deliverX X i) S w':=by
 have hmem:X.way.getD i nilF ∈ X.way:=by
  rw [List.getD_eq_getElem?_getD,List.getElem?_eq_getElem hi]
  exact List.getElem_mem hi
 have hf:=hI.p.fl _ hmem
 have hw:=hI.p.way
 obtain ⟨L',hd,hT⟩:=take_forms hI hf
 have hS:∀ s,∀ k,(k = gp ∨ own (1 + s) k ∨ own (3 + s) k) → k = gp ∨ ∃ j,own j k:=fun s k hk => hk.elim .inl (fun x => x.elim (fun y => .inr ⟨_,y⟩) (fun y => .inr ⟨_,y⟩))
 unfold deliverX
 generalize hff:X.way.getD i nilF = f at *
 obtain ⟨dst,bt,p⟩:=f
 have hbt:0 < bt ∧ bt < 4294967296:=hf.boot
 have hg:p.Good:=hf.good
 have hdst:dst = 0 ∨ dst = 1:=hf.dst
 have hl:∀ s,s < 2 → (X.sd s).log.length ≤ 1000000:=fun s hs => by have:=(hI.p.side s hs).len; omega
 have hok:∀ s,s < 2 → (X.sd s).end_.Ok:=fun s hs => (hI.p.side s hs).fine.ok
 rcases hdst with rfl | rfl
 ·rcases hT with hT | hT | hT | ⟨body,hT,hb1,hb2⟩
  ·refine (deliver_n_0 h i hi hw bt p hff hbt hg (hok 0 (by decide)) (hl 0 (by decide)) kind side vb L' hd hT).mono fun e w' hq => ⟨hq.1,_,hS 0,?_⟩
   rw [hT]; exact hq.2
  ·refine (deliver_u_0 h i hi hw bt p hff hbt hg (hok 0 (by decide)) (hl 0 (by decide)) kind side vb L' hd hT).mono fun e w' hq => ⟨hq.1,_,hS 0,?_⟩
   rw [hT]; exact hq.2
  ·refine (deliver_d_0 h i hi hw bt p hff hbt hg (hok 0 (by decide)) (hl 0 (by decide)) kind side vb L' hd hT).mono fun e w' hq => ⟨hq.1,_,hS 0,?_⟩
   rw [hT]; exact hq.2
  ·refine (deliver_g_0 h i hi hw bt p hff hbt hg (hok 0 (by decide)) (hl 0 (by decide)) kind side vb L' hd body hb1 hb2 hT).mono fun e w' hq => ⟨hq.1,_,hS 0,?_⟩
   rw [hT]
   have e1:takeS (X.sd 0) (L',⟨hd,false,false,body⟩) = noteF (endF (X.sd 0) L') 4 body:=by
    unfold takeS
    rw [if_neg (show ¬ false = true by decide),if_neg (show ¬ false = true by decide),if_pos hb2]
   show Moves w B gp ge own (({ X with way:=X.way.eraseIdx i }:Pr).set 0 (takeS (X.sd 0) (L',⟨hd,false,false,body⟩))) _ w'
   rw [e1]; exact hq.2
 ·rcases hT with hT | hT | hT | ⟨body,hT,hb1,hb2⟩
  ·refine (deliver_n_1 h i hi hw bt p hff hbt hg (hok 1 (by decide)) (hl 1 (by decide)) kind side vb L' hd hT).mono fun e w' hq => ⟨hq.1,_,hS 1,?_⟩
   rw [hT]; exact hq.2
  ·refine (deliver_u_1 h i hi hw bt p hff hbt hg (hok 1 (by decide)) (hl 1 (by decide)) kind side vb L' hd hT).mono fun e w' hq => ⟨hq.1,_,hS 1,?_⟩
   rw [hT]; exact hq.2
  ·refine (deliver_d_1 h i hi hw bt p hff hbt hg (hok 1 (by decide)) (hl 1 (by decide)) kind side vb L' hd hT).mono fun e w' hq => ⟨hq.1,_,hS 1,?_⟩
   rw [hT]; exact hq.2
  ·refine (deliver_g_1 h i hi hw bt p hff hbt hg (hok 1 (by decide)) (hl 1 (by decide)) kind side vb L' hd body hb1 hb2 hT).mono fun e w' hq => ⟨hq.1,_,hS 1,?_⟩
   rw [hT]
   have e1:takeS (X.sd 1) (L',⟨hd,false,false,body⟩) = noteF (endF (X.sd 1) L') 4 body:=by
    unfold takeS
    rw [if_neg (show ¬ false = true by decide),if_neg (show ¬ false = true by decide),if_pos hb2]
   show Moves w B gp ge own (({ X with way:=X.way.eraseIdx i }:Pr).set 1 (takeS (X.sd 1) (L',⟨hd,false,false,body⟩))) _ w'
   rw [e1]; exact hq.2
def BodyAt (w:World) (gp:Nat) (U:Nat → Prop) (Ab:Option Addr) (body:List Int):Prop:=∀ W':World,Kept w W' (fun k => k = gp ∨ U k) → (Kd.int .u8).C W' Ab body.length body
section
variable {w:World} {B gp N:Nat} {U:Nat → Prop} {X:Pr} (h:Whole w B gp U X) (hI:Inv X N) (hN:N ≤ 900000)
include h hI hN
theorem do_lo (kind side i:Int) (body:List Int) (Ab:Option Addr) (cb:Nat) (hb:badA X ⟨kind,side,i,body⟩ = 0) (hk6:kind < 6) (hC:kind = 3 → BodyAt w gp U Ab body) :
  Calls Try.prog 41 #[.pointer (some ⟨gp,0,none⟩),.agg #[.int .i64 kind,.int .i64 side,.int .i64 i,.slice Ab body.length cb]] w fun e w' => e = .returned (.int .i64 (actE X ⟨kind,side,i,body⟩)) ∧ WTurn w B gp U (pumpX (pumpX (actX X ⟨kind,side,i,body⟩) 0) 1) w':=by
 have hact:=act_inv hI (by omega) hb
 have hoy:∀ s,s < 2 → ((actX X ⟨kind,side,i,body⟩).sd s).end_.Ok:=fun s hs => (hact.side s hs).fine.ok
 have hwy:=hact.way
 obtain ⟨hk,hsd,_⟩:=badA_side hb
 obtain ⟨ge,own,lv,wv,hP,hU⟩:=h
 have hok:∀ s,s < 2 → (X.sd s).end_.Ok:=fun s hs => (hI.p.side s hs).fine.ok
 have hl:∀ s,s < 2 → (X.sd s).log.length ≤ 1000000:=fun s hs => by have:=(hI.p.side s hs).len; omega
 have hbo:∀ s,s < 2 → 0 < (X.sd s).boot ∧ (X.sd s).boot < 4294967296:=fun s hs => by
  rw [(hI.p.side s hs).boot]; exact ⟨(hI.p.side s hs).fine.own,(hI.p.side s hs).fine.ok.own.2⟩
 have hs01:side = 0 ∨ side = 1:=hsd hk6
 have hkk:kind = 1 ∨ kind = 2 ∨ kind = 3 ∨ kind = 4 ∨ kind = 5:=by have:=hk.1; simp only at this; omega
 have hO:∀ j,∀ k,own j k → k = gp ∨ U k:=fun j k hx => .inr (hU j k hx)
 have hS3:∀ a b,∀ k,(k = gp ∨ own a k ∨ own b k) → k = gp ∨ U k:=fun a b k hk => hk.elim .inl (fun x => x.elim (fun y => .inr (hU _ _ y)) (fun y => .inr (hU _ _ y)))
 have hbody:kind = 3 → ∀ s,∀ w',Below w.heap.size w w' → ∀ W':World,Kept w' W' (fun k => k = gp ∨ own (1 + s) k ∨ own (3 + s) k) → (Kd.int .u8).C W' Ab body.length body:=fun h3 s w' hbw W' hkw =>
  hC h3 W' ((Kept.of_below hbw _).then_ hkw (fun k hx => .inl (hS3 _ _ k hx)))
 rcases hkk with rfl | rfl | rfl | rfl | rfl <;> rcases hs01 with rfl | rfl
 ·exact do_a0 hP 1 i (by decide) Ab body.length cb 107 _ Try.func107 (by kernel_rfl) rfl _ (fun W r hm => look_1 hm) (fun w' hbw => (open_0 (hP.sub hbw) (hok 0 (by decide)) 1 i _).mono fun e w'' hq => ⟨hq.1,hq.2.whole hU (hO _)⟩) hoy hwy
 ·exact do_a1 hP 1 i (by decide) Ab body.length cb 107 _ Try.func107 (by kernel_rfl) rfl _ (fun W r hm => look_1 hm) (fun w' hbw => (open_1 (hP.sub hbw) (hok 1 (by decide)) 1 i _).mono fun e w'' hq => ⟨hq.1,hq.2.whole hU (hO _)⟩) hoy hwy
 ·refine do_a0 hP 2 i (by decide) Ab body.length cb 108 _ Try.func108 (by kernel_rfl) rfl _ (fun W r hm => look_2 hm) (fun w' hbw => ?_) hoy hwy
  by_cases h2:(X.sd 0).end_.phase = 2
  ·refine (shut_up_0 (hP.sub hbw) 2 i _ (hl 0 (by decide)) h2).mono fun e w'' hq => ⟨hq.1,?_⟩
   have hm:=hq.2.whole hU (hS3 _ _)
   show WTurn _ B gp U (X.set 0 (shutS (X.sd 0))) _
   unfold shutS; rw [if_pos h2]; exact hm
  ·refine (shut_no_0 (hP.sub hbw) 2 i _ (hl 0 (by decide)) h2).mono fun e w'' hq => ⟨hq.1,?_⟩
   have hm:=hq.2.whole hU (hS3 _ _)
   show WTurn _ B gp U (X.set 0 (shutS (X.sd 0))) _
   unfold shutS; rw [if_neg h2]; exact hm
 ·refine do_a1 hP 2 i (by decide) Ab body.length cb 108 _ Try.func108 (by kernel_rfl) rfl _ (fun W r hm => look_2 hm) (fun w' hbw => ?_) hoy hwy
  by_cases h2:(X.sd 1).end_.phase = 2
  ·refine (shut_up_1 (hP.sub hbw) 2 i _ (hl 1 (by decide)) h2).mono fun e w'' hq => ⟨hq.1,?_⟩
   have hm:=hq.2.whole hU (hS3 _ _)
   show WTurn _ B gp U (X.set 1 (shutS (X.sd 1))) _
   unfold shutS; rw [if_pos h2]; exact hm
  ·refine (shut_no_1 (hP.sub hbw) 2 i _ (hl 1 (by decide)) h2).mono fun e w'' hq => ⟨hq.1,?_⟩
   have hm:=hq.2.whole hU (hS3 _ _)
   show WTurn _ B gp U (X.set 1 (shutS (X.sd 1))) _
   unfold shutS; rw [if_neg h2]; exact hm
 ·refine do_a0 hP 3 i (by decide) Ab body.length cb 109 _ Try.func109 (by kernel_rfl) rfl _ (fun W r hm => look_3 hm) (fun w' hbw => ?_) hoy hwy
  by_cases hE:sendE (X.sd 0).end_ body.length = 0
  ·refine (send_ok_0 (hP.sub hbw) (hok 0 (by decide)) 3 i body Ab cb (hbody rfl 0 w' hbw) (hl 0 (by decide)) hE).mono fun e w'' hq => ⟨hq.1,?_⟩
   have hm:=hq.2.whole hU (hS3 _ _)
   show WTurn _ B gp U (X.set 0 (sendS (X.sd 0) body)) _
   unfold sendS; rw [if_pos hE]; exact hm
  ·refine (send_no_0 (hP.sub hbw) (hok 0 (by decide)) 3 i body Ab cb (hbody rfl 0 w' hbw) (hl 0 (by decide)) hE).mono fun e w'' hq => ⟨hq.1,?_⟩
   have hm:=hq.2.whole hU (hS3 _ _)
   show WTurn _ B gp U (X.set 0 (sendS (X.sd 0) body)) _
   unfold sendS; rw [if_neg hE]; exact hm
 ·refine do_a1 hP 3 i (by decide) Ab body.length cb 109 _ Try.func109 (by kernel_rfl) rfl _ (fun W r hm => look_3 hm) (fun w' hbw => ?_) hoy hwy
  by_cases hE:sendE (X.sd 1).end_ body.length = 0
  ·refine (send_ok_1 (hP.sub hbw) (hok 1 (by decide)) 3 i body Ab cb (hbody rfl 1 w' hbw) (hl 1 (by decide)) hE).mono fun e w'' hq => ⟨hq.1,?_⟩
   have hm:=hq.2.whole hU (hS3 _ _)
   show WTurn _ B gp U (X.set 1 (sendS (X.sd 1) body)) _
   unfold sendS; rw [if_pos hE]; exact hm
  ·refine (send_no_1 (hP.sub hbw) (hok 1 (by decide)) 3 i body Ab cb (hbody rfl 1 w' hbw) (hl 1 (by decide)) hE).mono fun e w'' hq => ⟨hq.1,?_⟩
   have hm:=hq.2.whole hU (hS3 _ _)
   show WTurn _ B gp U (X.set 1 (sendS (X.sd 1) body)) _
   unfold sendS; rw [if_neg hE]; exact hm
 ·exact do_a0 hP 4 i (by decide) Ab body.length cb 110 _ Try.func110 (by kernel_rfl) rfl _ (fun W r hm => look_4 hm) (fun w' hbw => (tick_0 (hP.sub hbw) (hok 0 (by decide)) 4 i _).mono fun e w'' hq => ⟨hq.1,hq.2.whole hU (hO _)⟩) hoy hwy
 ·exact do_a1 hP 4 i (by decide) Ab body.length cb 110 _ Try.func110 (by kernel_rfl) rfl _ (fun W r hm => look_4 hm) (fun w' hbw => (tick_1 (hP.sub hbw) (hok 1 (by decide)) 4 i _).mono fun e w'' hq => ⟨hq.1,hq.2.whole hU (hO _)⟩) hoy hwy
 ·refine do_a0 hP 5 i (by decide) Ab body.length cb 111 _ Try.func111 (by kernel_rfl) rfl _ (fun W r hm => look_5 hm) (fun w' hbw => ?_) hoy hwy
  have hb0:=hbo 0 (by decide)
  by_cases hm:(X.sd 0).boot = 4294967295
  ·refine (reboot_max_0 (hP.sub hbw) hU 5 i _ (by omega) hm).mono fun e w'' hq => ⟨?_,?_⟩
   ·rw [hq.1]; show _ = Ending.returned (.int .i64 (if (X.sd 0).boot = 4294967295 then 2 else 0)); rw [if_pos hm]
   ·show WTurn _ B gp U (X.set 0 (rebootS (X.sd 0))) _
    unfold rebootS; rw [if_pos hm,set_self]; exact hq.2
  ·refine (reboot_new_0 (hP.sub hbw) hU 5 i _ (by omega) (by omega) (hl 0 (by decide))).mono fun e w'' hq => ⟨?_,?_⟩
   ·rw [hq.1]; show _ = Ending.returned (.int .i64 (if (X.sd 0).boot = 4294967295 then 2 else 0)); rw [if_neg hm]
   ·show WTurn _ B gp U (X.set 0 (rebootS (X.sd 0))) _
    unfold rebootS; rw [if_neg hm]; exact hq.2
 ·refine do_a1 hP 5 i (by decide) Ab body.length cb 111 _ Try.func111 (by kernel_rfl) rfl _ (fun W r hm => look_5 hm) (fun w' hbw => ?_) hoy hwy
  have hb0:=hbo 1 (by decide)
  by_cases hm:(X.sd 1).boot = 4294967295
  ·refine (reboot_max_1 (hP.sub hbw) hU 5 i _ (by omega) hm).mono fun e w'' hq => ⟨?_,?_⟩
   ·rw [hq.1]; show _ = Ending.returned (.int .i64 (if (X.sd 1).boot = 4294967295 then 2 else 0)); rw [if_pos hm]
   ·show WTurn _ B gp U (X.set 1 (rebootS (X.sd 1))) _
    unfold rebootS; rw [if_pos hm,set_self]; exact hq.2
  ·refine (reboot_new_1 (hP.sub hbw) hU 5 i _ (by omega) (by omega) (hl 1 (by decide))).mono fun e w'' hq => ⟨?_,?_⟩
   ·rw [hq.1]; show _ = Ending.returned (.int .i64 (if (X.sd 1).boot = 4294967295 then 2 else 0)); rw [if_neg hm]
   ·show WTurn _ B gp U (X.set 1 (rebootS (X.sd 1))) _
    unfold rebootS; rw [if_neg hm]; exact hq.2
theorem do_hi (kind side:Int) (j:Nat) (body:List Int) (Ab:Option Addr) (nb cb:Nat) (hb:badA X ⟨kind,side,(j:Int),body⟩ = 0) (hk6:¬ kind < 6) :
  Calls Try.prog 41 #[.pointer (some ⟨gp,0,none⟩),.agg #[.int .i64 kind,.int .i64 side,.int .i64 (j:Int),.slice Ab nb cb]] w fun e w' => e = .returned (.int .i64 0) ∧ WTurn w B gp U (pumpX (pumpX (actX X ⟨kind,side,(j:Int),body⟩) 0) 1) w':=by
 have hact:=act_inv hI (by omega) hb
 have hoy:∀ s,s < 2 → ((actX X ⟨kind,side,(j:Int),body⟩).sd s).end_.Ok:=fun s hs => (hact.side s hs).fine.ok
 have hwy:=hact.way
 obtain ⟨hk,_,hi⟩:=badA_side hb
 have hj:j < X.way.length:=by have:=(hi (by show 6 ≤ kind; omega)).2; simpa using this
 have hw:=hI.p.way
 obtain ⟨ge,own,lv,wv,hP,hU⟩:=h
 have hkk:kind = 6 ∨ kind = 7 ∨ kind = 8:=by have:=hk.2; simp only at this; omega
 rcases hkk with rfl | rfl | rfl
 ·refine do_b hP 6 side j (by decide) hj Ab nb cb 112 _ Try.func112 (by kernel_rfl) rfl _ (fun W r hm => look_6 hm) (fun w' hbw => (deliver_w (hP.sub hbw) hI hN j hj 6 side _).mono fun e w'' hq => ⟨hq.1,?_⟩) hoy hwy
  obtain ⟨S,hS,hM⟩:=hq.2
  exact hM.whole hU (fun k hk => (hS k hk).elim .inl (fun ⟨a,x⟩ => .inr (hU _ _ x)))
 ·exact do_b hP 7 side j (by decide) hj Ab nb cb 113 _ Try.func113 (by kernel_rfl) rfl _ (fun W r hm => look_7 hm) (fun w' hbw => (drop_p (hP.sub hbw) j hj hw 7 side _).mono fun e w'' hq => ⟨hq.1,hq.2.whole hU (fun k hk => .inl hk)⟩) hoy hwy
 ·exact do_b hP 8 side j (by decide) hj Ab nb cb 114 _ Try.func114 (by kernel_rfl) rfl _ (fun W r hm => look_8 hm) (fun w' hbw => (twin_p (hP.sub hbw) j hj hw 8 side _).mono fun e w'' hq => ⟨hq.1,hq.2.whole hU (fun k hk => hk.elim .inl (fun x => .inr (hU _ _ x)))⟩) hoy hwy
theorem do_w (a:Act) (Ab:Option Addr) (cb:Nat) (hC:a.kind = 3 → BodyAt w gp U Ab a.body) :
  Calls Try.prog 41 #[.pointer (some ⟨gp,0,none⟩),.agg #[.int .i64 a.kind,.int .i64 a.side,.int .i64 a.i,.slice Ab a.body.length cb]] w fun e w' => e = .returned (.int .i64 (doE X a)) ∧ WTurn w B gp U (doX X a) w':=by
 obtain ⟨kind,side,i,body⟩:=a
 by_cases hb:badA X ⟨kind,side,i,body⟩ = 0
 ·unfold doE doX
  rw [if_pos hb,if_pos hb]
  by_cases hk6:kind < 6
  ·exact do_lo h hI hN kind side i body Ab cb hb hk6 hC
  ·obtain ⟨hk,_,hi⟩:=badA_side hb
   have hi':=hi (by show 6 ≤ kind; omega)
   obtain ⟨j,hj⟩:∃ j:Nat,i = (j:Int):=⟨i.toNat,by have:(0:Int) ≤ i:=hi'.1; omega⟩
   subst hj
   have hE:actE X ⟨kind,side,(j:Int),body⟩ = 0:=by
    unfold actE
    rw [if_neg (show ¬ kind = 1 by omega),if_neg (show ¬ kind = 3 by omega),if_neg (show ¬ kind = 5 by omega)]
   rw [hE]
   exact do_hi h hI hN kind side j body Ab _ cb hb hk6
 ·unfold doE doX
  rw [if_neg hb,if_neg hb]
  have hW:=h
  obtain ⟨ge,own,lv,wv,hP,hU⟩:=h
  unfold badA at hb ⊢
  split
  ·rename_i h1
   exact (do_e1 hP kind side i h1 Ab _ cb).mono fun e w' hq => ⟨hq.1,WTurn.same hW hq.2⟩
  rename_i h1
  rw [if_neg h1] at hb
  have hkk:kind = 1 ∨ kind = 2 ∨ kind = 3 ∨ kind = 4 ∨ kind = 5 ∨ kind = 6 ∨ kind = 7 ∨ kind = 8:=by simp only at h1; omega
  have hlook:∃ fn:FuncId,∀ (W:World) (r:Nat),W.heap[r]? = some (.map actsE8 8) → (Instr.lookup 146 (.map (some r)) (.int .i64 kind) true).run Try.prog W = .ok (.tuple #[.func (.func fn) #[] #[],.bool true]) W:=by
   rcases hkk with rfl | rfl | rfl | rfl | rfl | rfl | rfl | rfl
   ·exact ⟨_,fun W r hm => look_1 hm⟩
   ·exact ⟨_,fun W r hm => look_2 hm⟩
   ·exact ⟨_,fun W r hm => look_3 hm⟩
   ·exact ⟨_,fun W r hm => look_4 hm⟩
   ·exact ⟨_,fun W r hm => look_5 hm⟩
   ·exact ⟨_,fun W r hm => look_6 hm⟩
   ·exact ⟨_,fun W r hm => look_7 hm⟩
   ·exact ⟨_,fun W r hm => look_8 hm⟩
  obtain ⟨fn,hlook⟩:=hlook
  split
  ·rename_i h2
   exact (do_e2 hP kind side i fn h2.1 h2.2.1 h2.2.2 Ab _ cb hlook).mono fun e w' hq => ⟨hq.1,WTurn.same hW hq.2⟩
  rename_i h2
  rw [if_neg h2] at hb
  split
  ·rename_i h3
   exact (do_e3 hP kind side i fn (by have:6 ≤ kind:=h3.1; omega) h3.2 Ab _ cb hlook).mono fun e w' hq => ⟨hq.1,WTurn.same hW hq.2⟩
  ·rename_i h3
   rw [if_neg h3] at hb
   exact absurd rfl hb
end
end Go.Proofs.Ytnkkgofpifhoeaa.Pr
end
section
namespace Go.Proofs.Ytnkkgofpifhoeaa.Pr
open Go.RowKit Go.Proofs.Ytnkkgofpifhoeaa.Base Go.Proofs.Ytnkkgofpifhoeaa.Lk Go.Proofs.Ytnkkgofpifhoeaa.Win Go.Proofs.YtnkkgofpifhoeaaW.PrintWords
structure PP (w0:World) (gp:Nat) (X:Pr) (wr:World):Prop where
 whole:Whole wr w0.heap.size gp (fun k => w0.heap.size ≤ k) X
 below:Below w0.heap.size w0 wr
theorem PP.sub {w0 wr w1:World} {gp:Nat} {X:Pr} (h:PP w0 gp X wr) (hb:Below wr.heap.size wr w1):PP w0 gp X w1:=⟨h.whole.sub hb,h.below.trans (hb.mono h.below.size)⟩
theorem PP.gp {w0 wr:World} {gp:Nat} {X:Pr} (h:PP w0 gp X wr):w0.heap.size ≤ gp ∧ gp < wr.heap.size:=by
 obtain ⟨_,_,_,_,hP,_⟩:=h.whole
 exact ⟨hP.low,blk_lt hP.blk⟩
theorem PP.turn {w0 wr w1:World} {gp:Nat} {X Y:Pr} (h:PP w0 gp X wr) (ht:WTurn wr w0.heap.size gp (fun k => w0.heap.size ≤ k) Y w1):PP w0 gp Y w1 :=
 ⟨ht.1.mono (fun k hk => hk.elim id (fun x => Nat.le_trans h.below.size x)),h.below.trans ht.2.2⟩
theorem new_pp (w0 w:World) (hb:Below w0.heap.size w0 w):Calls Try.prog 44 #[] w fun e w' => e = .returned (.pointer (some ⟨w.heap.size,0,none⟩)) ∧ PP w0 w.heap.size newX w' :=
 (new_p w w0.heap.size hb.size).mono fun e w' hq => by
  obtain ⟨ge,own,he,hP,ho,hbl⟩:=hq
  exact ⟨he,⟨_,_,_,_,hP,fun i k hx => Nat.le_trans hb.size (ho i k hx)⟩,hb.trans hbl⟩
theorem bytes_move {w w':World} {A:Option Addr} {n:Nat} {xs:List Int} (h:(Kd.int .u8).C w A n xs) (hk:∀ k,k < w.heap.size → w'.heap[k]? = w.heap[k]?):(Kd.int .u8).C w' A n xs:=by
 refine ⟨h.1,h.2.1,fun hn => ?_⟩
 obtain ⟨ad,he,hc⟩:=h.2.2 hn
 refine ⟨ad,he,fun j p hj => ?_⟩
 obtain ⟨c,hs,hr,hcell⟩:=hc j p hj
 refine ⟨c,hs,hr,fun i u hu => ?_⟩
 have hx:=hcell i u hu
 have hlt:(ad.add (j * (Kd.int .u8).sz + i)).block < w.heap.size:=by
  by_cases hl:(ad.add (j * (Kd.int .u8).sz + i)).block < w.heap.size
  ·exact hl
  ·exfalso
   have hnone:w.heap[(ad.add (j * (Kd.int .u8).sz + i)).block]? = none:=Array.getElem?_eq_none (Nat.le_of_not_lt hl)
   unfold World.cell? at hx
   rw [hnone] at hx
   cases hx
 rw [World.cell?_of_block (hk _ hlt)]
 exact hx
theorem do_pp {w0 wr:World} {gp N:Nat} {X:Pr} (h:PP w0 gp X wr) (hI:Inv X N) (hN:N ≤ 900000) (a:Act) (Ab:Option Addr) (cb:Nat) (hC:a.kind = 3 → (Kd.int .u8).C w0 Ab a.body.length a.body) :
  Calls Try.prog 41 #[.pointer (some ⟨gp,0,none⟩),.agg #[.int .i64 a.kind,.int .i64 a.side,.int .i64 a.i,.slice Ab a.body.length cb]] wr fun e w' => e = .returned (.int .i64 (doE X a)) ∧ PP w0 gp (doX X a) w':=by
 refine (do_w h.whole hI hN a Ab cb (fun h3 W' hk => bytes_move (hC h3) (fun k hlt => ?_))).mono fun e w' hq => ⟨hq.1,h.turn hq.2⟩
 have hgp:=h.gp
 have hz:=h.below.size
 rw [hk.2 k (by omega) (fun hx => by omega),h.below.block k hlt]
theorem do_pf {w0 wr w1:World} {gp N:Nat} {X:Pr} (h:PP w0 gp X wr) (hb:Below wr.heap.size wr w1) (hI:Inv X N) (hN:N ≤ 900000) (a:Act) (Ab:Option Addr) (cb:Nat)
  (hC:∀ W':World,(∀ k,wr.heap.size ≤ k → k < w1.heap.size → W'.heap[k]? = w1.heap[k]?) → (Kd.int .u8).C W' Ab a.body.length a.body) :
  Calls Try.prog 41 #[.pointer (some ⟨gp,0,none⟩),.agg #[.int .i64 a.kind,.int .i64 a.side,.int .i64 a.i,.slice Ab a.body.length cb]] w1 fun e w' => e = .returned (.int .i64 (doE X a)) ∧ PP w0 gp (doX X a) w' ∧ ∀ k,wr.heap.size ≤ k → k < w1.heap.size → w'.heap[k]? = w1.heap[k]?:=by
 have hgp:=h.gp
 have hz:=h.below.size
 have hz1:=hb.size
 have hW:Whole w1 w0.heap.size gp (fun k => w0.heap.size ≤ k ∧ k < wr.heap.size) X:=by
  obtain ⟨ge,own,lv,wv,hP,hU⟩:=h.whole
  exact ⟨ge,own,lv,wv,hP.sub hb,fun i k hx => ⟨hU i k hx,hP.lt i k hx⟩⟩
 refine (do_w hW hI hN a Ab cb (fun h3 W' hk => hC W' (fun k h1 h2 => hk.2 k h2 (fun hx => by omega)))).mono fun e w' hq => ⟨hq.1,⟨hq.2.1.mono (fun k hk => ?_),(h.below.trans (hb.mono hz)).trans hq.2.2.2⟩,fun k h1 h2 => hq.2.2.1.2 k h2 (fun hx => by omega)⟩
 rcases hk with hk | hk
 ·exact hk.1
 ·show w0.heap.size ≤ k; omega
section
variable {w0 wr:World} {gp:Nat} {X:Pr} (h:PP w0 gp X wr)
include h
theorem flight_pp:Calls Try.prog 43 #[.pointer (some ⟨gp,0,none⟩)] wr fun e w' => e = .returned (.int .i64 X.way.length) ∧ wr = w':=by
 obtain ⟨_,_,_,_,hP,_⟩:=h.whole
 exact flight_of hP
theorem phase_pp (s:Nat) (hs:s < 2):Calls Try.prog 40 #[.pointer (some ⟨gp,0,none⟩),.int .i64 s] wr fun e w' => e = .returned (.int .i64 (X.sd s).end_.phase) ∧ wr = w':=by
 obtain ⟨_,_,_,_,hP,_⟩:=h.whole
 exact phase_p hP s hs
theorem log_pp {N:Nat} (hI:Inv X N) (hN:N ≤ 900000) (s:Nat) (hs:s < 2):Calls Try.prog 38 #[.pointer (some ⟨gp,0,none⟩),.int .i64 s] wr fun e w' => ∃ v,e = .returned v ∧ ent.R 67 w' w0.heap.size (fun k => wr.heap.size ≤ k) v (X.sd s).log ∧ Below wr.heap.size wr w':=by
 obtain ⟨_,_,_,_,hP,_⟩:=h.whole
 have h1:=(hI.p.side s hs).len
 have h2:=(hI.p.side s hs).short
 have h0:s = 0 ∨ s = 1:=by omega
 rcases h0 with rfl | rfl
 ·exact log_0 hP (by omega) (fun x hx => Nat.le_trans (h2 x hx) (by decide))
 ·exact log_1 hP (by omega) (fun x hx => Nat.le_trans (h2 x hx) (by decide))
end
end Go.Proofs.Ytnkkgofpifhoeaa.Pr
end
section
namespace Go.Proofs.Ytnkkgofpifhoeaa.Pr
open Go.RowKit Go.Proofs.Ytnkkgofpifhoeaa.Base Go.Proofs.Ytnkkgofpifhoeaa.Steps Go.Proofs.Ytnkkgofpifhoeaa.Lk Go.Proofs.Ytnkkgofpifhoeaa.Win Go.Proofs.YtnkkgofpifhoeaaW.PrintWords Go.Proofs.YtnkkgofpifhoeaaW.PrintLast
def al0:Pr:=doX newX ⟨1,0,0,[]⟩
def al:Nat → Pr
 | 0 => doX al0 ⟨1,1,0,[]⟩
 | n + 1 => doX (al n) ⟨6,0,0,[]⟩
def al7:Pr:=doX (al 6) ⟨3,0,0,[120]⟩
def al8:Pr:=doX al7 ⟨6,0,0,[]⟩
theorem al0_inv:Inv al0 1:=do_inv new_inv (by decide) _
theorem al_inv:∀ n,n ≤ 6 → Inv (al n) (n + 2)
 | 0,_ => do_inv al0_inv (by decide) _
 | n + 1,h => do_inv (al_inv n (by omega)) (by omega) _
theorem al7_inv:Inv al7 9:=do_inv (al_inv 6 (by decide)) (by decide) _
theorem al8_inv:Inv al8 10:=do_inv al7_inv (by decide) _
theorem al_way:∀ n,n < 6 → 0 < (al n).way.length:=by
 intro n hn
 match n,hn with
 | 0,_ => decide
 | 1,_ => decide
 | 2,_ => decide
 | 3,_ => decide
 | 4,_ => decide
 | 5,_ => decide
theorem al_end:(al 6).way.length = 0:=by decide
section
variable {w0 wr:World} {gp:Nat}
theorem al_open0 (h:PP w0 gp newX wr):Calls Try.prog 41 #[.pointer (some ⟨gp,0,none⟩),.agg #[.int .i64 1,.int .i64 0,.int .i64 0,.slice none 0 0]] wr fun e w' => e = .returned (.int .i64 0) ∧ PP w0 gp al0 w' :=
 (do_pp h new_inv (by decide) ⟨1,0,0,[]⟩ none 0 (fun x => absurd x (by decide))).mono fun e w' hq => ⟨hq.1.trans (by rw [show doE newX ⟨1,0,0,[]⟩ = 0 by decide]),hq.2⟩
theorem al_open1 (h:PP w0 gp al0 wr):Calls Try.prog 41 #[.pointer (some ⟨gp,0,none⟩),.agg #[.int .i64 1,.int .i64 1,.int .i64 0,.slice none 0 0]] wr fun e w' => e = .returned (.int .i64 0) ∧ PP w0 gp (al 0) w' :=
 (do_pp h al0_inv (by decide) ⟨1,1,0,[]⟩ none 0 (fun x => absurd x (by decide))).mono fun e w' hq => ⟨hq.1.trans (by rw [show doE al0 ⟨1,1,0,[]⟩ = 0 by decide]),hq.2⟩
theorem al_next (n:Nat) (hn:n < 6) (h:PP w0 gp (al n) wr):Calls Try.prog 41 #[.pointer (some ⟨gp,0,none⟩),.agg #[.int .i64 6,.int .i64 0,.int .i64 0,.slice none 0 0]] wr fun e w' => (∃ E:Int,e = .returned (.int .i64 E)) ∧ PP w0 gp (al (n + 1)) w' :=
 (do_pp h (al_inv n (by omega)) (by omega) ⟨6,0,0,[]⟩ none 0 (fun x => absurd x (by decide))).mono fun e w' hq => ⟨⟨_,hq.1⟩,hq.2⟩
theorem al_send {w1:World} (h:PP w0 gp (al 6) wr) (hb:w1 = wr.alloc (.cells #[.int .u8 120] 5 (1,2))):Calls Try.prog 41 #[.pointer (some ⟨gp,0,none⟩),.agg #[.int .i64 3,.int .i64 0,.int .i64 0,.slice (some ⟨wr.heap.size,0,none⟩) 1 1]] w1 fun e w' => e = .returned (.int .i64 0) ∧ PP w0 gp al7 w':=by
 subst hb
 refine (do_pf h ((Below.refl _ _).alloc (Nat.le_refl _) _) (al_inv 6 (by decide)) (by decide) ⟨3,0,0,[120]⟩ (some ⟨wr.heap.size,0,none⟩) 1 (fun W' hW => ?_)).mono fun e w' hq => ⟨hq.1.trans (by rw [show doE (al 6) ⟨3,0,0,[120]⟩ = 0 by decide]),hq.2.1⟩
 have hx:=hW wr.heap.size (Nat.le_refl _) (by simp)
 have hblk:W'.heap[wr.heap.size]? = some (.cells #[.int .u8 120] 5 (1,2)):=hx.trans (heap_alloc_new wr _)
 refine ⟨rfl,by decide,fun _ => ⟨_,rfl,fun j p hj => ⟨[.int .u8 p],rfl,rfl,fun i u hu => ?_⟩⟩⟩
 have hj0:j = 0:=by
  by_cases h:j = 0
  ·exact h
  ·rw [List.getElem?_eq_none (by simp; omega)] at hj; cases hj
 subst hj0
 have hi0:i = 0:=by
  by_cases h:i = 0
  ·exact h
  ·rw [List.getElem?_eq_none (by simp; omega)] at hu; cases hu
 subst hi0
 have hp:(120:Int) = p:=Option.some.inj hj
 subst hp
 have hu':Value.int .u8 120 = u:=Option.some.inj hu
 subst hu'
 show W'.cell? ⟨wr.heap.size,0,none⟩ = _
 rw [World.cell?_of_block (w:=wr.alloc (.cells #[.int .u8 120] 5 (1,2))) (a:=⟨wr.heap.size,0,none⟩) hx]
 exact World.cell?_alloc_mark wr #[.int .u8 120] 5 (1,2) 0
theorem al_last (h:PP w0 gp al7 wr):Calls Try.prog 41 #[.pointer (some ⟨gp,0,none⟩),.agg #[.int .i64 6,.int .i64 0,.int .i64 0,.slice none 0 0]] wr fun e w' => (∃ E:Int,e = .returned (.int .i64 E)) ∧ PP w0 gp al8 w' :=
 (do_pp h al7_inv (by decide) ⟨6,0,0,[]⟩ none 0 (fun x => absurd x (by decide))).mono fun e w' hq => ⟨⟨_,hq.1⟩,hq.2⟩
theorem al8_log:(al8.sd 1).log = [⟨1,1,1,1,1,[]⟩,⟨4,1,1,1,1,[120]⟩]:=by rfl
theorem al_log (h:PP w0 gp al8 wr):Calls Try.prog 38 #[.pointer (some ⟨gp,0,none⟩),.int .i64 1] wr fun e w' => ∃ g c A cb,e = .returned (.slice (some ⟨g,0,none⟩) 2 c) ∧ w'.cell? ⟨g,6,none⟩ = some (.int .i64 4) ∧ w'.cell? ⟨g,11,none⟩ = some (.slice A 1 cb) ∧ (Kd.int .u8).C w' A 1 [120] ∧ Below wr.heap.size wr w':=by
 refine (log_pp h al8_inv (by decide) 1 (by decide)).mono fun e w' hq => ?_
 obtain ⟨v,he,hR,hb⟩:=hq
 rw [al8_log] at hR
 obtain ⟨g,cap,hv,_⟩:=Kd.R_form hR (by decide)
 subst hv
 obtain ⟨cs,hl,hM,hc,_⟩:=Kd.R_elem hR nilE 1 (by decide) (by decide)
 obtain ⟨b,hcs,hRb⟩:=ent_M.1 hM
 obtain ⟨Ab,cb,hbv⟩:=Kd.R_slice hRb
 subst hbv
 subst hcs
 exact ⟨g,cap,Ab,cb,he,hc 0 _ rfl,hc 5 _ rfl,(Kd.R_reads' hRb).2.2,hb⟩
theorem al_phase (h:PP w0 gp al8 wr):Calls Try.prog 40 #[.pointer (some ⟨gp,0,none⟩),.int .i64 0] wr fun e w' => e = .returned (.int .i64 2) ∧ wr = w' :=
 (phase_pp h 0 (by decide)).mono fun e w' hq => ⟨hq.1.trans (by rw [show (al8.sd 0).end_.phase = 2 by decide]),hq.2⟩
end
theorem str1:strOfNums [120] = (⟨#[120]⟩:ByteArray):=by first | rfl | decide
set_option maxRecDepth 100000 in
set_option maxHeartbeats 4000000 in
theorem alive12 (w:World):Calls Try.prog 35 #[] w fun e w' => e = .returned (.bool true) ∧ Below w.heap.size w w':=by
 go_enter Try.func35,Try.ntmps35
 go_wp2_with (first | (go_at_call 44; (have hc:=new_pp w w (Below.refl _ _)); (with_reducible refine hc.mono ?_); clear hc; rintro e w1 ⟨rfl,h⟩; (have HP1:=Lib.hid h); clear h) | (go_at_call 41; (have hc:=al_open0 HP1.out); (with_reducible refine hc.mono ?_); clear hc; rintro e w2 ⟨rfl,h⟩; (have HP2:=Lib.hid h); clear h) | (go_at_call 41; (have hc:=al_open1 HP2.out); (with_reducible refine hc.mono ?_); clear hc; rintro e w3 ⟨rfl,h⟩; (have HP3:=Lib.hid h); clear h))
 generalize hgp:w.heap.size = gp at *
 have HGP:=Lib.hid hgp
 clear hgp
 go_loopg [2] 6 (fun m v wr => ∃ i:Nat,m = 6 - i ∧ i ≤ 6 ∧ v = .int .i64 (i:Int) ∧ PP w gp (al i) wr)
 case atStart => exact ⟨0,rfl,by decide,rfl,HP3.out⟩
 case round =>
  obtain ⟨i,hm,hin,rfl,hP⟩:=hrel
  have HM:=Lib.hid hm
  have HIN:=Lib.hid hin
  have HP:=Lib.hid hP
  clear hm hin hP
  have hd:decide ((i:Int) < 50) = true:=by have:=HIN.out; simp; omega
  by_cases hlt:i < 6
  ·have HLT:=Lib.hid hlt
   have HW:=Lib.hid (al_way i hlt)
   have hc43:=flight_pp HP.out
   have HC:=Lib.hid hc43
   clear hc43
   generalize (al i).way.length = n at HW HC
   have hd2:decide ((n:Int) > 0) = true:=by have:=HW.out; simp; omega
   have hd3:decide (0 < n) = true:=by have:=HW.out; simp; omega
   have hn0:=HW.out
   go_wp2_with (first | (go_at_call 43; (have hc:=HC.out); (with_reducible refine hc.mono ?_); clear hc; rintro e w9 ⟨rfl,rfl⟩; skip) | (go_at_call 41; (have hc:=al_next i HLT.out HP.out); (with_reducible refine hc.mono ?_); clear hc; rintro e w5 ⟨⟨E,rfl⟩,h⟩; (have HPN:=Lib.hid h); clear h))
   go_roundg (6 - (i + 1))
   case measure => have:=HM.out; have:=HLT.out; omega
   case rel => exact ⟨i + 1,rfl,by have:=HLT.out; omega,by first | rfl | simp,HPN.out⟩
  ·have hi6:i = 6:=by have:=HIN.out; omega
   subst hi6
   have HC:=Lib.hid (by have hc43:=flight_pp HP.out; rw [al_end] at hc43; exact hc43:Calls Try.prog 43 #[.pointer (some ⟨gp,0,none⟩)] wr fun e w' => e = .returned (.int .i64 (0:Nat)) ∧ wr = w')
   have hconv:=Lib.run_convert_bytes_const (P:=Try.prog) wr 22 5 #[.int .u8 120] 1 1 Try.underlying22 Try.underlying5
   go_wp2_with (first | (go_at_call 43; (have hc:=HC.out); (with_reducible refine hc.mono ?_); clear hc; rintro e w9 ⟨rfl,rfl⟩; skip) | (go_at_call 41; (have hc:=al_send HP.out rfl); (with_reducible refine hc.mono ?_); clear hc; rintro e w5 ⟨rfl,h⟩; (have HP5:=Lib.hid h); clear h hconv) | (go_at_call 41; (have hc:=al_last HP5.out); (with_reducible refine hc.mono ?_); clear hc; rintro e w6 ⟨⟨E,rfl⟩,h⟩; (have HP6:=Lib.hid h); clear h) | (go_at_call 38; (have hc:=al_log HP6.out); (with_reducible refine hc.mono ?_); clear hc; rintro e w7 ⟨g,c,A,cb,rfl,h1,h2,h3,h4⟩; (have HC7:=Lib.hid h3); (have HP7:=Lib.hid (HP6.out.sub h4)); (have hcv:=Kd.C_string (P:=Try.prog) (dst:=9) (c:=cb) Try.underlying22 Try.underlying5 Try.underlying9 h3); (rw [str1] at hcv); clear h3 h4) | (go_at_call 40; (have hc:=al_phase HP7.out); (with_reducible refine hc.mono ?_); clear hc; rintro e w9 ⟨rfl,rfl⟩; skip))
   all_goals (go_ret; exact ⟨rfl,HP7.out.below⟩)
end Go.Proofs.Ytnkkgofpifhoeaa.Pr
end
section
namespace Go.Proofs.Ytnkkgofpifhoeaa.Pr
open Go.RowKit Go.Proofs.Ytnkkgofpifhoeaa.Base Go.Proofs.Ytnkkgofpifhoeaa.Steps Go.Proofs.Ytnkkgofpifhoeaa.Lk Go.Proofs.Ytnkkgofpifhoeaa.Win Go.Proofs.YtnkkgofpifhoeaaW.PrintWords Go.Proofs.YtnkkgofpifhoeaaW.PrintLast
def act:Kd Act:=Kd.iso (Kd.pair (Kd.int .i64) (Kd.pair (Kd.int .i64) (Kd.pair (Kd.int .i64) Lk.bytes))) (fun a => (a.kind,a.side,a.i,a.body))
def acells (a:Act) (b:Value):List Value:=[.int .i64 a.kind,.int .i64 a.side,.int .i64 a.i,b]
theorem act_sz:act.sz = 4:=rfl
theorem act_K {w:World} {a:Act} {cs:List Value}:act.K w a cs ↔ ∃ A c,cs = acells a (.slice A a.body.length c) ∧ a.body.length ≤ c ∧ (Kd.int .u8).C w A a.body.length a.body:=by
 constructor
 ·rintro ⟨_,_,rfl,rfl,_,_,rfl,rfl,_,_,rfl,rfl,A,c,rfl,h1,h2⟩
  exact ⟨A,c,rfl,h1,h2⟩
 ·rintro ⟨A,c,rfl,h1,h2⟩
  exact ⟨_,_,rfl,rfl,_,_,rfl,rfl,_,_,rfl,rfl,A,c,rfl,h1,h2⟩
def nilA:Act:=⟨0,0,0,[]⟩
theorem act_elem {w:World} {A:Option Addr} {n:Nat} {l:List Act} (h:act.C w A n l) (i:Nat) (hi:i < n) :
  ∃ g o Ab cb,A = some ⟨g,o,none⟩ ∧ n = l.length ∧ w.rangeAt g (o + i * 4) (acells (l.getD i nilA) (.slice Ab (l.getD i nilA).body.length cb)) ∧ (Kd.int .u8).C w Ab (l.getD i nilA).body.length (l.getD i nilA).body:=by
 obtain ⟨hn,hm,hc⟩:=h
 obtain ⟨⟨g,o,sp⟩,he,hcell⟩:=hc (by omega)
 have hsp:sp = none:=by
  obtain ⟨c,hl,hK,hcc⟩:=hcell 0 _ (List.getElem?_eq_getElem (show 0 < l.length by omega))
  obtain ⟨A',c',hcs,_,_⟩:=act_K.1 hK
  have h0:=hcc 0 (.int .i64 (l[0]'(by omega)).kind) (by rw [hcs]; rfl)
  rw [show 0 * act.sz + 0 = 0 by simp] at h0
  cases sp with
  | none => rfl
  | some s =>
   exfalso
   unfold World.cell? Addr.add at h0
   rw [if_pos rfl] at h0
   cases hb:w.heap[g]? with
   | none => rw [hb] at h0; cases h0
   | some ob =>
    rw [hb] at h0
    cases ob <;> simp at h0
 subst hsp
 obtain ⟨c,hl,hK,hcc⟩:=hcell i _ (List.getElem?_eq_getElem (show i < l.length by omega))
 obtain ⟨Ab,cb,hcs,hle,hC⟩:=act_K.1 hK
 have hg:l.getD i nilA = l[i]'(by omega):=by rw [List.getD_eq_getElem?_getD,List.getElem?_eq_getElem (show i < l.length by omega)]; rfl
 rw [hg]
 refine ⟨g,o,Ab,cb,he,hn.symm,fun j v hv => ?_,hC⟩
 have:=hcc j v (by rw [hcs]; exact hv)
 rw [act_sz] at this
 unfold Addr.add at this
 by_cases hz:i * 4 + j = 0
 ·rw [if_pos hz] at this
  have e:o + i * 4 + j = o:=by omega
  rw [e]; exact this
 ·rw [if_neg hz] at this
  have e:o + i * 4 + j = o + (i * 4 + j):=by omega
  rw [e]; exact this
def FitsP (l:List Act):Prop:=l.length ≤ 400 ∧ ∀ a ∈ l,a.body.length ≤ 1100
theorem fits_all {l:List Act} (hl:l.length ≤ 400) (h:∀ j,j < l.length → (l.getD j nilA).body.length ≤ 1100):FitsP l:=⟨hl,fun a ha => by
 obtain ⟨j,hj,rfl⟩:=List.mem_iff_getElem.1 ha
 have:=h j hj
 rwa [List.getD_eq_getElem?_getD,List.getElem?_eq_getElem hj] at this⟩
def FitsE (l:List Act) (e:Ending):Prop:=∃ b,e = .returned (.bool b) ∧ (b = true → FitsP l)
set_option maxRecDepth 100000 in
set_option maxHeartbeats 2000000 in
theorem fits_w (w:World) (A:Option Addr) (n c:Nat) (l:List Act) (h:act.C w A n l):Calls Try.prog 36 #[.slice A n c] w fun e w' => FitsE l e ∧ w = w':=by
 have H:=Lib.hid h
 have HN:=Lib.hid h.1
 have HM:=Lib.hid h.2.1
 clear h
 by_cases h4:n ≤ 400
 ·have hd4:decide ((n:Int) > 400) = false:=by simp; omega
  have H4:=Lib.hid h4
  go_enter Try.func36,Try.ntmps36
  go_wp2_with fail
  go_loop [3] (fun v => ∃ i:Nat,i ≤ n ∧ v = .int .i64 (i:Int) ∧ ∀ j,j < i → (l.getD j nilA).body.length ≤ 1100) (fun v => n - (intOf v).toNat)
  case atStart => exact ⟨0,Nat.zero_le _,rfl,fun j hj => absurd hj (by omega)⟩
  case round =>
   obtain ⟨i,hin,rfl,hall⟩:=hrel
   have HIN:=Lib.hid hin
   have HALL:=Lib.hid hall
   clear hin hall
   have hn4:=H4.out
   by_cases hlt:i < n
   ·have hd:decide ((i:Int) < (n:Int)) = true:=by simp [hlt]
    obtain ⟨g,o,Ab,cb,hA,_,hrg,_⟩:=act_elem H.out i hlt
    subst hA
    have hc3:w.cell? ⟨g,o + i * 4 + 3,none⟩ = some (.slice Ab (l.getD i nilA).body.length cb):=hrg 3 _ rfl
    clear hrg
    generalize hb:(l.getD i nilA).body.length = nb at *
    have HB:=Lib.hid hb
    clear hb
    by_cases h11:nb ≤ 1100
    ·have hd11:decide ((nb:Int) > 1100) = false:=by simp; omega
     go_wp2_with fail
     go_round
     case rel => exact ⟨i + 1,by omega,by go_num,fun j hj => by
      by_cases hji:j = i
      ·subst hji; rw [HB.out]; exact h11
      ·exact HALL.out j (by omega)⟩
     case measure => simp [intOf]; omega
    ·have hd11:decide ((nb:Int) > 1100) = true:=by simp; omega
     go_wp2_with fail
     all_goals (go_ret; exact ⟨⟨false,rfl,fun hf => absurd hf (by decide)⟩,rfl⟩)
   ·have hd:decide ((i:Int) < (n:Int)) = false:=by simp; omega
    have hie:i = n:=by have:=HIN.out; omega
    subst hie
    go_wp2_with fail
    all_goals (go_ret; exact ⟨⟨true,rfl,fun _ => fits_all (by rw [HN.out]; exact H4.out) (by rw [HN.out]; exact HALL.out)⟩,rfl⟩)
 ·have hd4:decide ((n:Int) > 400) = true:=by simp; omega
  go_enter Try.func36,Try.ntmps36
  go_wp2_with fail
  all_goals (go_ret; exact ⟨⟨false,rfl,fun hf => absurd hf (by decide)⟩,rfl⟩)
theorem run_take (X:Pr) (l:List Act) (i:Nat) (hi:i < l.length):runX X (l.take (i + 1)) = doX (runX X (l.take i)) (l.getD i nilA):=by
 unfold runX
 rw [List.take_add_one,List.foldl_append,List.getD_eq_getElem?_getD,List.getElem?_eq_getElem hi]
 rfl
theorem act_C_below {w w1:World} {A:Option Addr} {n:Nat} {l:List Act} (h:act.C w A n l) (hb:Below w.heap.size w w1):act.C w1 A n l:=Kd.C_below h hb
set_option maxRecDepth 100000 in
set_option maxHeartbeats 2000000 in
theorem run_w (w0 w:World) (hb:Below w0.heap.size w0 w) (A:Option Addr) (n c:Nat) (l:List Act) (h:act.C w0 A n l) (hf:FitsP l):Calls Try.prog 37 #[.slice A n c] w fun e w' => ∃ gp,e = .returned (.pointer (some ⟨gp,0,none⟩)) ∧ PP w0 gp (runX newX l) w' ∧ w.heap.size ≤ gp:=by
 have H:=Lib.hid h
 have HN:=Lib.hid h.1
 have HF:=Lib.hid hf
 have HB:=Lib.hid hb
 have hn4:n ≤ 400:=by rw [← h.1]; exact hf.1
 have H4:=Lib.hid hn4
 clear h hf hb hn4
 go_enter Try.func37,Try.ntmps37
 go_wp2_with (go_at_call 44; (have hc:=new_pp w0 w HB.out); (with_reducible refine hc.mono ?_); clear hc; rintro e w1 ⟨rfl,hP⟩; (have HP1:=Lib.hid hP); clear hP)
 generalize hgp:w.heap.size = gp at *
 have HGP:=Lib.hid hgp
 clear hgp
 go_loopg [4] n (fun m v wr => ∃ i:Nat,m = n - i ∧ i ≤ n ∧ v = .int .i64 (i:Int) ∧ PP w0 gp (runX newX (l.take i)) wr)
 case atStart => exact ⟨0,rfl,Nat.zero_le _,rfl,HP1.out⟩
 case round =>
  obtain ⟨i,hm,hin,rfl,hP⟩:=hrel
  have HM:=Lib.hid hm
  have HIN:=Lib.hid hin
  have HP:=Lib.hid hP
  clear hm hin hP
  have hn4:=H4.out
  by_cases hlt:i < n
  ·have hd:decide ((i:Int) < (n:Int)) = true:=by simp [hlt]
   have hi:=run_inv (l.take i) new_inv (by have:=HN.out; rw [List.length_take]; omega)
   have HI:=Lib.hid hi
   obtain ⟨g,o,Ab,cb,hA,-,hrg,hC⟩:=act_elem H.out i hlt
   subst hA
   have hdo:=do_pp HP.out hi (by have:=HN.out; rw [List.length_take]; omega) (l.getD i nilA) Ab cb (fun _ => hC)
   rw [← run_take newX l i (by rw [HN.out]; exact hlt)] at hdo
   have HDO:=Lib.hid hdo
   have HRG:=Lib.hid (show wr.rangeAt g (o + i * 4) (acells (l.getD i nilA) (.slice Ab (l.getD i nilA).body.length cb)) from fun j v hv => pw_cell_below HP.out.below (hrg j v hv))
   clear hrg hC hdo hi
   generalize hx:l.getD i nilA = x at *
   clear hx
   go_wp2_with (first | ((with_reducible refine gate_dst (N:=16) rfl ?_); (refine wpList_load_mid rfl 72 (.tmp 15) rfl g (o + i * 4) (by first | rfl | (simp; done)) [.int .i64 x.kind,.int .i64 x.side,.int .i64 x.i,.slice Ab x.body.length cb] _ HRG.out Try.underlying72 rfl (by kernel_rfl) ?_)) | (go_at_call 41; (have hc:=HDO.out); (with_reducible refine hc.mono ?_); clear hc; rintro e w2 ⟨rfl,hP⟩; (have HP2:=Lib.hid hP); clear hP))
   go_roundg (n - (i + 1))
   case measure => have:=HM.out; omega
   case rel => exact ⟨i + 1,rfl,by omega,by first | rfl | simp,HP2.out⟩
  ·have hd:decide ((i:Int) < (n:Int)) = false:=by simp; omega
   have hie:i = n:=by have:=HIN.out; omega
   subst hie
   go_wp2_with fail
   all_goals (go_ret; refine ⟨_,rfl,?_,by rw [HGP.out]; exact Nat.le_refl _⟩)
   have hp:=HP.out
   rw [List.take_of_length_le (by rw [HN.out]; exact Nat.le_refl _)] at hp
   exact hp
end Go.Proofs.Ytnkkgofpifhoeaa.Pr
end
section
namespace Go.Proofs.Ytnkkgofpifhoeaa.Pr
open Go.Proofs.Ytnkkgofpifhoeaa.Lk
def Le2 (a b c d:Int):Prop:=a < c ∨ a = c ∧ b ≤ d
theorem Le2.refl (a b:Int):Le2 a b a b:=.inr ⟨rfl,Int.le_refl _⟩
theorem Le2.trans {a b c d e f:Int} (h:Le2 a b c d) (k:Le2 c d e f):Le2 a b e f:=by unfold Le2 at *; omega
abbrev Pr.en (X:Pr) (s:Nat):Lk:=(X.sd s).end_
def Old (X:Pr) (s:Nat):Prop:=((X.en s).phase = 2 ∧ (X.en s).boot < (X.en (1 - s)).own) ∨ ∃ f ∈ X.way,f.dst.toNat = s ∧ f.boot < (X.en (1 - s)).own ∧ f.p.boot = (X.en s).own
structure FlK (X:Pr) (f:Fl):Prop where
 k2:Le2 f.boot f.p.mine (X.en (1 - f.dst.toNat)).own (X.en (1 - f.dst.toNat)).token
 k2':Le2 f.p.boot f.p.yours (X.en f.dst.toNat).own (X.en f.dst.toNat).token
 k3:f.boot = (X.en (1 - f.dst.toNat)).own → Le2 f.p.boot f.p.yours (X.en (1 - f.dst.toNat)).boot (X.en (1 - f.dst.toNat)).yours
 k6:f.p.kind = 1 → f.p.seq ≠ 0 → f.boot = (X.en (1 - f.dst.toNat)).own → f.p.mine = (X.en (1 - f.dst.toNat)).token → (X.en (1 - f.dst.toNat)).phase ≠ 1
structure KInv (X:Pr):Prop where
 k1:∀ s,s < 2 → Le2 (X.en s).boot (X.en s).yours (X.en (1 - s)).own (X.en (1 - s)).token
 fl:∀ f ∈ X.way,FlK X f
 k4:∀ s,s < 2 → (X.en s).phase = 2 → (X.en s).boot = (X.en (1 - s)).own → Le2 (X.en s).own (X.en s).token (X.en (1 - s)).boot (X.en (1 - s)).yours
 k5:¬ (Old X 0 ∧ Old X 1)
theorem KInv.up_up {X:Pr} (h:KInv X) (h0:(X.en 0).phase = 2) (h1:(X.en 1).phase = 2):∀ s,s < 2 → (X.en s).boot = (X.en (1 - s)).own ∧ (X.en s).yours = (X.en (1 - s)).token:=by
 have a1:=h.k1 0 (by decide)
 have b1:=h.k1 1 (by decide)
 have a4:=h.k4 0 (by decide) h0
 have b4:=h.k4 1 (by decide) h1
 have k5:=h.k5
 simp only [Nat.sub_zero,Nat.sub_self] at a1 b1 a4 b4
 have n0:(X.en 0).boot = (X.en 1).own → (X.en 1).boot = (X.en 0).own → ((X.en 0).yours = (X.en 1).token ∧ (X.en 1).yours = (X.en 0).token):=fun e0 e1 => by
  have a:=a4 e0; have b:=b4 e1
  unfold Le2 at a b a1 b1
  omega
 have n1:(X.en 0).boot = (X.en 1).own:=by
  unfold Le2 at a1 b1
  by_cases e0:(X.en 0).boot = (X.en 1).own
  ·exact e0
  ·exfalso
   have o0:Old X 0:=.inl ⟨h0,by show _ < (X.en 1).own; omega⟩
   by_cases e1:(X.en 1).boot = (X.en 0).own
   ·have b:=b4 e1
    unfold Le2 at b
    omega
   ·exact k5 ⟨o0,.inl ⟨h1,by show _ < (X.en 0).own; omega⟩⟩
 have n2:(X.en 1).boot = (X.en 0).own:=by
  unfold Le2 at a1 b1
  by_cases e0:(X.en 1).boot = (X.en 0).own
  ·exact e0
  ·exfalso
   have a:=a4 n1
   unfold Le2 at a
   omega
 have n3:=n0 n1 n2
 intro s hs
 have hs0:s = 0 ∨ s = 1:=by omega
 rcases hs0 with rfl | rfl
 ·exact ⟨n1,n3.1⟩
 ·exact ⟨n2,n3.2⟩
theorem says_att {L:Lk} {p:Pkt} (h:Says L p):p.mine = L.token ∧ ((p.boot = 0 ∧ p.yours = 0) ∨ (p.boot = L.boot ∧ p.yours = L.yours)) ∧ (p.kind = 1 → p.seq ≠ 0 → L.phase = 2):=by
 rcases h with h | h | h
 ·rw [h.1]
  refine ⟨rfl,?_,fun _ hs => ?_⟩
  ·show ((if L.known = true then L.boot else 0) = 0 ∧ (if L.known = true then L.yours else 0) = 0) ∨ _
   cases hk:L.known
   ·left; simp
   ·right
    constructor
    ·show (if L.known = true then L.boot else 0) = _; rw [if_pos hk]
    ·show (if L.known = true then L.yours else 0) = _; rw [if_pos hk]
  ·by_cases h2:L.phase = 2
   ·exact h2
   ·exact absurd (show (if L.phase = 2 then (1:Int) else 0) = 0 from if_neg h2) hs
 ·obtain ⟨_,i,_,hp⟩:=h
  rw [hp]
  exact ⟨rfl,.inr ⟨rfl,rfl⟩,fun hk => absurd hk (by show ¬ (2:Int) = 1; decide)⟩
 ·rw [h.2]
  exact ⟨rfl,.inr ⟨rfl,rfl⟩,fun hk => absurd hk (by show ¬ (3:Int) = 1; decide)⟩
structure StepA (X:Pr) (s:Nat) (L:Lk):Prop where
 own:L.own = (X.en s).own
 tok:(X.en s).token ≤ L.token
 new:Le2 (X.en s).boot (X.en s).yours L.boot L.yours
 cap:Le2 L.boot L.yours (X.en (1 - s)).own (X.en (1 - s)).token
 up4:L.phase = 2 → L.boot = (X.en (1 - s)).own → Le2 L.own L.token (X.en (1 - s)).boot (X.en (1 - s)).yours
 up5:L.phase = 2 → L.boot < (X.en (1 - s)).own → Old X s
 op:L.phase = 1 → (X.en s).phase = 1 ∨ (X.en s).token < L.token
theorem set_en {X:Pr} {s:Nat} {d:Sd}:(X.set s d).en s = d.end_:=by unfold Pr.en; rw [Pr.set_eq]
theorem set_en' {X:Pr} {s t:Nat} {d:Sd} (h:t ≠ s):(X.set s d).en t = X.en t:=by unfold Pr.en; rw [Pr.set_ne X h]
theorem KInv.stepA {X:Pr} (h:KInv X) {s:Nat} (hs:s < 2) {d:Sd} (hA:StepA X s d.end_):KInv (X.set s d):=by
 have h1:=h.k1 s hs
 have h1o:=h.k1 (1 - s) (by omega)
 have hoo:1 - (1 - s) = s:=by omega
 have hne:1 - s ≠ s:=by omega
 rw [hoo] at h1o
 have hcur:Le2 (X.en s).own (X.en s).token d.end_.own d.end_.token:=by rw [hA.own]; exact .inr ⟨rfl,hA.tok⟩
 have eo:(X.set s d).en (1 - s) = X.en (1 - s):=set_en' hne
 have es:(X.set s d).en s = d.end_:=set_en
 have hold:∀ t,t < 2 → Old (X.set s d) t → Old X t:=by
  intro t ht ho
  by_cases hts:t = s
  ·subst hts
   rcases ho with ho | ho
   ·rw [es,eo] at ho
    exact hA.up5 ho.1 ho.2
   ·obtain ⟨f,hf,a,b,c⟩:=ho
    rw [es,hA.own] at c
    rw [eo] at b
    exact .inr ⟨f,hf,a,b,c⟩
  ·have hts':t = 1 - s:=by omega
   subst hts'
   rcases ho with ho | ho
   ·rw [eo,hoo,es,hA.own] at ho
    exact .inl ⟨ho.1,by rw [hoo]; exact ho.2⟩
   ·obtain ⟨f,hf,a,b,c⟩:=ho
    rw [eo] at c
    rw [hoo,es,hA.own] at b
    exact .inr ⟨f,hf,a,by rw [hoo]; exact b,c⟩
 refine ⟨fun t ht => ?_,fun f hf => ?_,fun t ht hp hb => ?_,fun ho => h.k5 ⟨hold 0 (by decide) ho.1,hold 1 (by decide) ho.2⟩⟩
 ·by_cases hts:t = s
  ·subst hts; rw [es,eo]; exact hA.cap
  ·have hts':t = 1 - s:=by omega
   subst hts'
   rw [hoo,eo,es]
   exact h1o.trans hcur
 ·have hk:=h.fl f hf
  by_cases hd:f.dst.toNat = s
  ·refine ⟨?_,?_,?_,?_⟩
   ·rw [hd,eo]; have:=hk.k2; rwa [hd] at this
   ·rw [hd,es]; have:=hk.k2'; rw [hd] at this; exact this.trans hcur
   ·rw [hd,eo]; have:=hk.k3; rwa [hd] at this
   ·rw [hd,eo]; have:=hk.k6; rwa [hd] at this
  ·by_cases hd':1 - f.dst.toNat = s
   ·have k2:=hk.k2; have k2':=hk.k2'; have k3:=hk.k3; have k6:=hk.k6
    rw [hd'] at k2 k3 k6
    refine ⟨?_,?_,?_,?_⟩
    ·rw [hd',es]; exact k2.trans hcur
    ·rw [set_en' hd]; exact k2'
    ·rw [hd',es]; exact fun hb => (k3 (by rw [hA.own] at hb; exact hb)).trans hA.new
    ·rw [hd',es]
     intro hk1 hsq hb hm hph
     rw [hA.own] at hb
     rcases hA.op hph with ho | ho
     ·have hmt:f.p.mine = (X.en s).token:=by
       unfold Le2 at k2; have:=hA.tok; omega
      exact k6 hk1 hsq hb hmt ho
     ·unfold Le2 at k2; omega
   ·have hbig:f.dst.toNat ≥ 2:=by omega
    have e1:(1 - f.dst.toNat) = 0:=by omega
    refine ⟨?_,?_,?_,?_⟩
    ·rw [set_en' hd']; exact hk.k2
    ·rw [set_en' hd]; exact hk.k2'
    ·rw [set_en' hd']; exact hk.k3
    ·rw [set_en' hd']; exact hk.k6
 ·by_cases hts:t = s
  ·subst hts
   rw [es] at hp hb ⊢
   rw [eo] at hb ⊢
   exact hA.up4 hp hb
  ·have hts':t = 1 - s:=by omega
   subst hts'
   rw [eo] at hp hb ⊢
   rw [hoo,es] at hb ⊢
   rw [hA.own] at hb
   have:=h.k4 (1 - s) (by omega) hp (by rw [hoo]; exact hb)
   rw [hoo] at this
   exact this.trans hA.new
theorem KInv.stepB {X:Pr} (h:KInv X) {s:Nat} (hs:s < 2) {d:Sd} (ho:(X.en s).own < d.end_.own) (ho0:0 < (X.en (1 - s)).own) (hb:d.end_.boot = 0) (hph:d.end_.phase = 0):KInv (X.set s d):=by
 have h1o:=h.k1 (1 - s) (by omega)
 have hoo:1 - (1 - s) = s:=by omega
 have hne:1 - s ≠ s:=by omega
 rw [hoo] at h1o
 have eo:(X.set s d).en (1 - s) = X.en (1 - s):=set_en' hne
 have es:(X.set s d).en s = d.end_:=set_en
 have hcur:Le2 (X.en s).own (X.en s).token d.end_.own d.end_.token:=.inl ho
 have hnot:¬ Old (X.set s d) s:=by
  rintro (hx | ⟨f,hf,a,_,c⟩)
  ·rw [es] at hx; omega
  ·have k2':=(h.fl f hf).k2'
   rw [a] at k2'
   rw [es] at c
   unfold Le2 at k2'
   omega
 refine ⟨fun t ht => ?_,fun f hf => ?_,fun t ht hp hb' => ?_,fun hx => ?_⟩
 ·by_cases hts:t = s
  ·subst hts; rw [es,eo,hb]; exact .inl ho0
  ·have hts':t = 1 - s:=by omega
   subst hts'
   rw [hoo,eo,es]
   exact h1o.trans hcur
 ·have hk:=h.fl f hf
  by_cases hd:f.dst.toNat = s
  ·refine ⟨?_,?_,?_,?_⟩
   ·rw [hd,eo]; have:=hk.k2; rwa [hd] at this
   ·rw [hd,es]; have:=hk.k2'; rw [hd] at this; exact this.trans hcur
   ·rw [hd,eo]; have:=hk.k3; rwa [hd] at this
   ·rw [hd,eo]; have:=hk.k6; rwa [hd] at this
  ·by_cases hd':1 - f.dst.toNat = s
   ·have k2:=hk.k2; have k2':=hk.k2'
    rw [hd'] at k2
    refine ⟨?_,?_,?_,?_⟩
    ·rw [hd',es]; exact k2.trans hcur
    ·rw [set_en' hd]; exact k2'
    ·rw [hd',es]; intro hx; unfold Le2 at k2; omega
    ·rw [hd',es]; intro _ _ hx; unfold Le2 at k2; omega
   ·refine ⟨?_,?_,?_,?_⟩
    ·rw [set_en' hd']; exact hk.k2
    ·rw [set_en' hd]; exact hk.k2'
    ·rw [set_en' hd']; exact hk.k3
    ·rw [set_en' hd']; exact hk.k6
 ·by_cases hts:t = s
  ·subst hts; rw [es] at hp; omega
  ·have hts':t = 1 - s:=by omega
   subst hts'
   rw [eo] at hb'
   rw [hoo,es] at hb'
   unfold Le2 at h1o
   omega
 ·have h0:s = 0 ∨ s = 1:=by omega
  rcases h0 with rfl | rfl
  ·exact hnot hx.1
  ·exact hnot hx.2
theorem KInv.ways {X:Pr} (h:KInv X) {ws:List Fl} (hw:∀ f ∈ ws,f ∈ X.way):KInv { X with way:=ws }:=by
 refine ⟨h.k1,fun f hf => ⟨(h.fl f (hw f hf)).k2,(h.fl f (hw f hf)).k2',(h.fl f (hw f hf)).k3,(h.fl f (hw f hf)).k6⟩,h.k4,fun ho => h.k5 ⟨?_,?_⟩⟩
 ·exact ho.1.elim .inl (fun ⟨f,hf,x⟩ => .inr ⟨f,hw f hf,x⟩)
 ·exact ho.2.elim .inl (fun ⟨f,hf,x⟩ => .inr ⟨f,hw f hf,x⟩)
theorem KInv.put {X:Pr} (h:KInv X) {f:Fl} (hk:FlK X f) (hn:f ∈ X.way ∨ f.boot = (X.en (1 - f.dst.toNat)).own):KInv (putX X f):=by
 unfold putX
 split
 ·refine ⟨h.k1,fun g hg => ?_,h.k4,fun ho => h.k5 ?_⟩
  ·rcases List.mem_append.1 hg with hg | hg
   ·exact ⟨(h.fl g hg).k2,(h.fl g hg).k2',(h.fl g hg).k3,(h.fl g hg).k6⟩
   ·rw [List.mem_singleton.1 hg]; exact ⟨hk.k2,hk.k2',hk.k3,hk.k6⟩
  ·have key:∀ t,Old ({ X with way:=X.way ++ [f] }:Pr) t → Old X t:=by
    rintro t (hx | ⟨g,hg,a,b,c⟩)
    ·exact .inl hx
    ·rcases List.mem_append.1 hg with hg | hg
     ·exact .inr ⟨g,hg,a,b,c⟩
     ·have e:=List.mem_singleton.1 hg
      subst e
      rcases hn with hn | hn
      ·exact .inr ⟨g,hn,a,b,c⟩
      ·exfalso
       rw [a] at hn
       have b':g.boot < (X.en (1 - t)).own:=b
       omega
   exact ⟨key 0 ho.1,key 1 ho.2⟩
 ·exact h
theorem says_flk {X:Pr} {s:Nat} (hs:s < 2) (h:KInv X) (ho:0 < (X.en (1 - s)).own) (hok:(X.en s).Ok) {p:Pkt} (hp:Says (X.en s) p):FlK X ⟨1 - (s:Int),(X.en s).own,p⟩:=by
 obtain ⟨hm,hb,hq⟩:=says_att hp
 have hd:(1 - (s:Int)).toNat = 1 - s:=by omega
 have hoo:1 - (1 - s) = s:=by omega
 have h1:=h.k1 s hs
 have hz:Le2 p.boot p.yours (X.en s).boot (X.en s).yours ∨ (p.boot = 0 ∧ p.yours = 0):=hb.elim .inr (fun x => .inl (by rw [x.1,x.2]; exact Le2.refl _ _))
 refine ⟨?_,?_,fun _ => ?_,fun h1 h2 _ _ => ?_⟩
 ·show Le2 (X.en s).own p.mine (X.en (1 - (1 - (s:Int)).toNat)).own _
  rw [hd,hoo,hm]; exact Le2.refl _ _
 ·show Le2 p.boot p.yours (X.en (1 - (s:Int)).toNat).own _
  rw [hd]
  rcases hz with hz | hz
  ·exact hz.trans h1
  ·rw [hz.1]; exact .inl ho
 ·show Le2 p.boot p.yours (X.en (1 - (1 - (s:Int)).toNat)).boot _
  rw [hd,hoo]
  rcases hb with hb | hb
  ·rw [hb.1,hb.2]
   have:=hok.boot; have:=hok.yours
   unfold Le2; omega
  ·rw [hb.1,hb.2]; exact Le2.refl _ _
 ·show (X.en (1 - (1 - (s:Int)).toNat)).phase ≠ 1
  rw [hd,hoo,hq h1 h2]; decide
theorem stepA_eq {X:Pr} (h:KInv X) {s:Nat} (hs:s < 2) {L:Lk} (ho:L.own = (X.en s).own) (hp:L.phase = (X.en s).phase ∨ L.phase = 0) (ht:L.token = (X.en s).token) (hb:L.boot = (X.en s).boot) (hy:L.yours = (X.en s).yours):StepA X s L:=by
 refine ⟨ho,by rw [ht]; exact Int.le_refl _,by rw [hb,hy]; exact Le2.refl _ _,by rw [hb,hy]; exact h.k1 s hs,fun h2 he => ?_,fun h2 he => ?_,fun h1 => ?_⟩
 ·rw [ho,ht]; exact h.k4 s hs (by omega) (by rw [← hb]; exact he)
 ·exact .inl ⟨by omega,by rw [← hb]; exact he⟩
 ·left; omega
theorem stepA_same {X:Pr} (h:KInv X) {s:Nat} (hs:s < 2) {L:Lk} (hl:Same (X.en s) L):StepA X s L:=stepA_eq h hs hl.own (.inl hl.phase) hl.token hl.boot hl.yours
theorem stepA_take {X:Pr} {N:Nat} (hI:Inv X N) (h:KInv X) {f:Fl} (hf:f ∈ X.way) {L':Lk} {t:Tk} (hc:TakeC (X.en f.dst.toNat) f.boot f.p L' t):StepA X f.dst.toNat L':=by
 have hs:f.dst.toNat < 2:=by have:=(hI.p.fl f hf).dst; omega
 have hk:=h.fl f hf
 have k2:=hk.k2
 have k3:=hk.k3
 clear hk
 generalize hst:f.dst.toNat = s at *
 have hok:=(hI.p.side s hs).fine.ok
 cases hc with
 | none _ => exact stepA_same h hs (Same.refl _)
 | again _ _ _ _ hss _ => exact stepA_same h hs hss
 | last _ _ _ _ => exact stepA_eq h hs rfl (.inr rfl) rfl rfl rfl
 | signal h2 _ _ _ k _ hx _ => exact stepA_eq h hs hx.own (.inl hx.phase) hx.token hx.boot hx.yours
 | learn h1 hk1 ha hm hss hy =>
  have hge:=age_ge ha
  have e1:L'.boot = f.boot:=hss.boot
  have e2:L'.yours = f.p.mine:=hss.yours
  have e3:L'.phase = (X.en s).phase:=hss.phase
  have e4:L'.token = (X.en s).token:=hss.token
  refine ⟨hss.own,by omega,by rw [e1,e2]; exact hge,by rw [e1,e2]; exact k2,fun h2 => by omega,fun h2 => by omega,fun _ => .inl (by omega)⟩
 | up h1 hk1 ha hm hss hy =>
  have hge:=age_ge ha
  have hmt:=meant_iff hm
  have e1:L'.boot = f.boot:=hss.boot
  have e2:L'.yours = f.p.mine:=hss.yours
  have e3:L'.phase = 2:=hss.phase
  have e4:L'.token = (X.en s).token:=hss.token
  have e5:L'.own = (X.en s).own:=hss.own
  refine ⟨hss.own,by omega,by rw [e1,e2]; exact hge,by rw [e1,e2]; exact k2,fun _ hb => ?_,fun _ hb => ?_,fun hx => by omega⟩
  ·rw [e1] at hb
   have:=k3 hb
   rw [e5,e4,← hmt.1,← hmt.2]; exact this
  ·rw [e1] at hb
   exact .inr ⟨f,hf,hst,hb,hmt.1⟩
 | anew h2 hk1 ha ht hss hy =>
  have hge:=age_ge (show ageF (X.en s) f.boot f.p.mine ≠ -1 by omega)
  have e1:L'.boot = f.boot:=hss.boot
  have e2:L'.yours = f.p.mine:=hss.yours
  have e3:L'.phase = 1:=hss.phase
  have e4:L'.token = (X.en s).token + 1:=hss.token
  refine ⟨hss.own,by omega,by rw [e1,e2]; exact hge,by rw [e1,e2]; exact k2,fun h2 => by omega,fun h2 => by omega,fun _ => .inr (by omega)⟩
theorem KInv.sd {X Y:Pr} (h:KInv X) (hs:Y.sd = X.sd) (hw:∀ f ∈ Y.way,f ∈ X.way):KInv Y:=by
 have e:Y = { X with way:=Y.way }:=by cases Y; cases X; simp only at hs; subst hs; rfl
 rw [e]; exact h.ways hw
theorem KInv.deliver {X:Pr} {N:Nat} (hI:Inv X N) (h:KInv X) {i:Nat} (hi:i < X.way.length):KInv (deliverX X i):=by
 have hmem:X.way.getD i nilF ∈ X.way:=by
  rw [List.getD_eq_getElem?_getD,List.getElem?_eq_getElem hi]
  exact List.getElem_mem hi
 unfold deliverX
 generalize X.way.getD i nilF = f at *
 have hd:=(hI.p.fl f hmem).dst
 have hs:f.dst.toNat < 2:=by omega
 have hside:=hI.p.side _ hs
 obtain ⟨hc,_⟩:=take_turn hside.fine.ok (hI.out _ hs) f.boot f.p
 have hA:=stepA_take hI h hmem hc
 have he:(takeS (X.sd f.dst.toNat) (takeF (X.sd f.dst.toNat).end_ f.boot f.p)).end_ = (takeF (X.en f.dst.toNat) f.boot f.p).1:=by
  unfold takeS
  split
  ·rfl
  ·split
   ·rfl
   ·split <;> rfl
 have h1:=h.stepA hs (d:=takeS (X.sd f.dst.toNat) (takeF (X.sd f.dst.toNat).end_ f.boot f.p)) (by rw [he]; exact hA)
 exact h1.sd rfl (fun g hg => eraseIdx_mem hg)
theorem KInv.act {X:Pr} {N:Nat} (hI:Inv X N) (h:KInv X) {a:Act} (hb:badA X a = 0):KInv (actX X a):=by
 obtain ⟨hk,hsd,hi⟩:=badA_side hb
 unfold actX
 have hside:a.kind < 6 → a.side.toNat < 2:=fun h => by have:=hsd h; omega
 have hself:∀ s,X.set s (endF (X.sd s) (X.sd s).end_) = X:=fun s => by rw [endF_self,set_self]
 split
 ·have hs:=hside (by omega)
  generalize a.side.toNat = s at *
  by_cases hE:openE (X.sd s).end_ = 0
  ·obtain ⟨h0,ht,hss,_⟩:=open_turn (hI.out s hs) hE
   refine h.stepA hs ⟨hss.own,?_,?_,?_,fun h2 => ?_,fun h2 => ?_,fun _ => .inr ?_⟩
   ·show _ ≤ (openL (X.sd s).end_).token; rw [hss.token]; show (X.sd s).end_.token ≤ (X.sd s).end_.token + 1; omega
   ·show Le2 _ _ (openL (X.sd s).end_).boot (openL (X.sd s).end_).yours; rw [hss.boot,hss.yours]; exact Le2.refl _ _
   ·show Le2 (openL (X.sd s).end_).boot (openL (X.sd s).end_).yours _ _; rw [hss.boot,hss.yours]; exact h.k1 s hs
   ·exact absurd (show (openL (X.sd s).end_).phase = 2 from h2) (by rw [hss.phase]; show ¬ (1:Int) = 2; decide)
   ·exact absurd (show (openL (X.sd s).end_).phase = 2 from h2) (by rw [hss.phase]; show ¬ (1:Int) = 2; decide)
   ·show _ < (openL (X.sd s).end_).token; rw [hss.token]; show (X.sd s).end_.token < (X.sd s).end_.token + 1; omega
  ·rw [open_no hE,hself]; exact h
 split
 ·have hs:=hside (by omega)
  generalize a.side.toNat = s at *
  have he:(shutS (X.sd s)).end_ = shut_ (X.sd s).end_:=by unfold shutS; split <;> rfl
  exact h.stepA hs (by rw [he]; exact stepA_eq h hs rfl (.inr rfl) rfl rfl rfl)
 split
 ·have hs:=hside (by omega)
  generalize a.side.toNat = s at *
  unfold sendS
  by_cases hE:sendE (X.sd s).end_ a.body.length = 0
  ·rw [if_pos hE]
   obtain ⟨_,_,_,_,hss,_⟩:=send_turn (hI.p.side s hs).fine.ok (hI.out s hs) a.body hE
   exact h.stepA hs (stepA_eq h hs hss.own (.inl hss.phase) hss.token hss.boot hss.yours)
  ·rw [if_neg hE,send_no hE,hself]; exact h
 split
 ·have hs:=hside (by omega)
  generalize a.side.toNat = s at *
  have hd:=hI.p.side s hs
  obtain ⟨hss,_⟩:=tick_turn hd.fine.ok (hI.out s hs) hd.fine.idleq
  exact h.stepA hs (stepA_same h hs hss)
 split
 ·have hs:=hside (by omega)
  generalize a.side.toNat = s at *
  by_cases hm:(X.sd s).boot = 4294967295
  ·have e1:rebootS (X.sd s) = X.sd s:=if_pos hm
   rw [e1,set_self]; exact h
  ·have e1:rebootS (X.sd s) = { X.sd s with boot:=(X.sd s).boot + 1,end_:=newL ((X.sd s).boot + 1),log:=(X.sd s).log ++ [⟨5,(X.sd s).boot + 1,0,0,0,[]⟩] }:=if_neg hm
   have hbo:=(hI.p.side s hs).boot
   refine h.stepB hs ?_ (hI.p.side (1 - s) (by omega)).fine.own ?_ ?_
   ·rw [e1]; show (X.sd s).end_.own < (X.sd s).boot + 1; omega
   ·rw [e1]; rfl
   ·rw [e1]; rfl
 split
 ·exact KInv.deliver hI h (hi (by omega)).2
 split
 ·exact h.ways (fun g hg => eraseIdx_mem hg)
 ·obtain ⟨hi0,hil⟩:=hi (by omega)
  have hmem:X.way.getD a.i.toNat nilF ∈ X.way:=by
   rw [List.getD_eq_getElem?_getD,List.getElem?_eq_getElem hil]
   exact List.getElem_mem hil
  exact h.put (h.fl _ hmem) (.inl hmem)
theorem FlK.sd {X Y:Pr} {f:Fl} (h:FlK X f) (hs:Y.sd = X.sd):FlK Y f:=by
 refine ⟨?_,?_,?_,?_⟩ <;> (unfold Pr.en; rw [hs])
 ·exact h.k2
 ·exact h.k2'
 ·exact h.k3
 ·exact h.k6
theorem KInv.puts {s b:Int} (ps:List Pkt):∀ {X:Pr},KInv X → (∀ p ∈ ps,FlK X ⟨1 - s,b,p⟩ ∧ b = (X.en (1 - (1 - s:Int).toNat)).own) → KInv (putsX X s b ps):=by
 induction ps with
 | nil => exact fun h _ => h
 | cons p ps ih =>
  intro X h hp
  have h1:=hp p List.mem_cons_self
  refine ih (h.put h1.1 (.inr h1.2)) (fun q hq => ?_)
  have h2:=hp q (List.mem_cons_of_mem _ hq)
  exact ⟨h2.1.sd (putX_sd X _),by unfold Pr.en; rw [putX_sd]; exact h2.2⟩
theorem KInv.pump {X:Pr} {N:Nat} (hI:PInv X N) (h:KInv X) {s:Nat} (hs:s < 2):KInv (pumpX X s):=by
 have hside:=hI.side s hs
 have h1:KInv (X.set s (endF (X.sd s) (outL (X.sd s).end_))):=h.stepA hs (stepA_same h hs (out_same _))
 unfold pumpX
 refine KInv.puts _ h1 (fun p hp => ?_)
 have hsay:=hI.says s hs p hp
 have eo:(X.set s (endF (X.sd s) (outL (X.sd s).end_))).en (1 - s) = X.en (1 - s):=set_en' (by omega)
 have es:(X.set s (endF (X.sd s) (outL (X.sd s).end_))).en s = outL (X.sd s).end_:=set_en
 have hfk:=says_flk hs h1 (by rw [eo]; exact (hI.side (1 - s) (by omega)).fine.own) (by rw [es]; exact (out_fine hside.fine).ok) (p:=p) (by rw [es]; exact hsay.same (out_same _))
 have hd:(1 - (1 - (s:Int)).toNat) = s:=by omega
 rw [es] at hfk
 refine ⟨?_,?_⟩
 ·rw [hside.boot]; exact hfk
 ·rw [hd]
  show (X.sd s).boot = ((X.set s (endF (X.sd s) (outL (X.sd s).end_))).en s).own
  rw [es,hside.boot]; rfl
theorem KInv.doX {X:Pr} {N:Nat} (hI:Inv X N) (hN:N < 4294967295) (h:KInv X) (a:Act):KInv (doX X a):=by
 unfold Pr.doX
 split
 ·rename_i hb
  have p0:=act_inv hI hN hb
  have p1:=p0.pump (s:=0) (by decide)
  exact KInv.pump p1 (KInv.pump p0 (h.act hI hb) (by decide)) (by decide)
 ·exact h
theorem new_k:KInv newX:=by
 refine ⟨fun s hs => .inl (by show (0:Int) < 1; decide),fun f hf => (by cases hf),fun s hs hp => absurd (show (0:Int) = 2 from hp) (by decide),?_⟩
 rintro ⟨h0 | ⟨f,hf,_⟩,_⟩
 ·exact absurd (show (0:Int) = 2 from h0.1) (by decide)
 ·cases hf
end Go.Proofs.Ytnkkgofpifhoeaa.Pr
end
section
namespace Go.Proofs.Ytnkkgofpifhoeaa.Pr
open Go.Proofs.Ytnkkgofpifhoeaa.Lk
theorem emit_out {L:Lk} (h:L.out.length < 1024) (p:Pkt):(emit_ L p).out = L.out ++ [p]:=by unfold emit_; rw [if_pos h]
theorem emit_idle (L:Lk) (p:Pkt):(emit_ L p).idle = L.idle:=by unfold emit_; split <;> rfl
theorem fillN_eq:∀ (r n k:Nat) (L:Lk),L.sent = (k:Int) → k + r = min 8 L.queue.length → r < n → L.out.length + r ≤ 1000 →
  (fillN n L).sent = ((k + r:Nat):Int) ∧ (fillN n L).out = L.out ++ (List.range' k r).map (fun i:Nat => dataP L (i:Int)) ∧ ((fillN n L).idle = L.idle ∨ (fillN n L).idle = 0):=by
 intro r
 induction r with
 | zero =>
  intro n k L hs hm hn ho
  have e:fillN n L = L:=by
   cases n with
   | zero => rfl
   | succ n =>
    unfold fillN
    exact if_neg (fun hc => by have h1:=hc.1; have h2:=hc.2; rw [hs] at h1 h2; omega)
  rw [e]
  exact ⟨hs,by simp,.inl rfl⟩
 | succ r ih =>
  intro n k L hs hm hn ho
  cases n with
  | zero => omega
  | succ n =>
   unfold fillN
   rw [if_pos ⟨by rw [hs]; omega,by rw [hs]; omega⟩]
   have hS:=sendOne_same L
   have ho1:(sendOne L).out = L.out ++ [dataP L (k:Int)]:=by
    unfold sendOne
    rw [emit_out (show ({ L with idle:=if L.sent = 0 then 0 else L.idle,sent:=L.sent + 1 }:Lk).out.length < 1024 by show L.out.length < 1024; omega)]
    show L.out ++ [dataP L L.sent] = _
    rw [hs]
   have hi1:(sendOne L).idle = if L.sent = 0 then 0 else L.idle:=by unfold sendOne; rw [emit_idle]
   obtain ⟨a,b,c⟩:=ih n (k + 1) (sendOne L) (by rw [sendOne_sent,hs]; omega) (by rw [hS.queue]; omega) (by omega) (by rw [ho1]; simp only [List.length_append,List.length_singleton]; omega)
   refine ⟨by rw [a]; omega,?_,?_⟩
   ·rw [b,ho1,List.range'_succ,List.map_cons,List.append_assoc]
    congr 1
    rw [List.singleton_append]
    congr 1
    exact List.map_congr_left (fun i _ => data_same hS _)
   ·rcases c with c | c
    ·rw [c,hi1]
     split
     ·exact .inr rfl
     ·exact .inl rfl
    ·exact .inr c
theorem fill_eq {L:Lk} {k:Nat} (hs:L.sent = (k:Int)) (hk:k ≤ min 8 L.queue.length) (ho:L.out = []) :
  (fill_ L).sent = ((min 8 L.queue.length:Nat):Int) ∧ (fill_ L).out = (List.range' k (min 8 L.queue.length - k)).map (fun i:Nat => dataP L (i:Int)) ∧ ((fill_ L).idle = L.idle ∨ (fill_ L).idle = 0):=by
 unfold fill_
 obtain ⟨a,b,c⟩:=fillN_eq (min 8 L.queue.length - k) ((8 - L.sent).toNat + 1) k L hs (by omega) (by rw [hs]; omega) (by rw [ho]; simp only [List.length_nil]; omega)
 refine ⟨by rw [a]; omega,by rw [b,ho,List.nil_append],c⟩
theorem sends_out (n:Nat) {L:Lk} (h:L.out.length + n ≤ 1024):(sends n L).out = L.out ++ (List.range n).map (fun i:Nat => dataP L (i:Int)):=by
 induction n with
 | zero => simp [sends]
 | succ n ih =>
  have h1:=ih (by omega)
  unfold sends
  rw [emit_out (by rw [h1]; simp only [List.length_append,List.length_map,List.length_range]; omega),h1,List.range_succ,List.map_append,List.append_assoc]
  rfl
theorem sends_rest (n:Nat) (L:Lk):(sends n L).sent = L.sent ∧ (sends n L).idle = L.idle:=by
 induction n with
 | zero => exact ⟨rfl,rfl⟩
 | succ n ih =>
  unfold sends
  exact ⟨(emit_sent _ _).trans ih.1,(emit_idle _ _).trans ih.2⟩
structure Wn (L:Lk):Prop where
 full:L.sent = ((min 8 L.queue.length:Nat):Int)
 idle:0 ≤ L.idle ∧ L.idle ≤ 2
theorem wn_emit {L:Lk} (h:Wn L) (p:Pkt):Wn (emit_ L p):=⟨by rw [emit_sent,(emit_same L p).queue]; exact h.full,by rw [emit_idle]; exact h.idle⟩
theorem wn_empty {L:Lk} (hq:L.queue = []) (hs:L.sent = 0) (hi:0 ≤ L.idle ∧ L.idle ≤ 2):Wn L:=⟨by rw [hq,hs]; rfl,hi⟩
theorem wn_tick {L:Lk} (h:Wn L):Wn (tick_ L):=by
 have hi:=h.idle
 unfold tick_
 split
 ·exact h
 split
 ·exact ⟨h.full,by show 0 ≤ (0:Int) ∧ (0:Int) ≤ 2; decide⟩
 split
 ·exact ⟨h.full,by show 0 ≤ L.idle + 1 ∧ L.idle + 1 ≤ 2; omega⟩
 split
 ·exact wn_emit (L:=rest_ L 0) ⟨h.full,by show 0 ≤ (0:Int) ∧ (0:Int) ≤ 2; decide⟩ _
 ·refine ⟨?_,?_⟩
  ·rw [(sends_rest _ _).1,(sends_same _ _).queue]; exact h.full
  ·rw [(sends_rest _ _).2]; show 0 ≤ (0:Int) ∧ (0:Int) ≤ 2; decide
theorem wn_send {L:Lk} (h:Wn L) (ho:L.out = []) (body:List Int):Wn (sendL L body):=by
 unfold sendL
 split
 ·have hf:=h.full
  obtain ⟨a,_,c⟩:=fill_eq (L:={ L with queue:=L.queue ++ [body] }) (k:=min 8 L.queue.length) hf (by show _ ≤ min 8 (L.queue ++ [body]).length; rw [List.length_append]; omega) ho
  have hS:=fill_same { L with queue:=L.queue ++ [body] }
  have hi:=h.idle
  refine ⟨by rw [a,hS.queue],?_⟩
  rcases c with c | c
  ·rw [c]; exact hi
  ·rw [c]; decide
 ·exact h
def uns (L:Lk):Nat:=L.queue.length - 8
theorem up_out {L:Lk} (h:Wn L) (ho:L.out = []) (p:Pkt) {k:Nat} (hk:k = 0 ∨ 1 ≤ k ∧ (k:Int) ≤ L.sent ∧ k = ackK L p) (hx:Same (upK L p k) (upL L p)) :
  Wn (upL L p) ∧ ∃ l:List Nat,(upL L p).out = l.map (fun i:Nat => dataP (upL L p) (i:Int)) ++ (if p.kind = 2 then [ackP (upL L p)] else []) ∧ l.length + uns (upL L p) = uns L ∧
   l = List.range' (min 8 L.queue.length - k) (min 8 (L.queue.length - k) - (min 8 L.queue.length - k)) ∧ ((upL L p).idle = L.idle ∨ (upL L p).idle = 0) ∧ (k ≠ 0 → (upL L p).idle = 0):=by
 have hf:=h.full
 have hsn:=upM_sent' L p
 have hq:(upL L p).queue = L.queue.drop k:=hx.queue
 have hkq:k ≤ min 8 L.queue.length:=by omega
 have huns:∀ m:Nat,m = min 8 (L.queue.length - k) - (min 8 L.queue.length - k) → m + uns (upL L p) = uns L:=fun m hm => by
  unfold uns; rw [hq,List.length_drop]; omega
 have hN:∃ l:List Nat,l = List.range' (min 8 L.queue.length - k) (min 8 (L.queue.length - k) - (min 8 L.queue.length - k)) ∧ (upN L p).out = l.map (fun i:Nat => dataP (upN L p) (i:Int)) ∧ (upN L p).sent = ((min 8 (L.queue.length - k):Nat):Int) ∧ ((upN L p).idle = L.idle ∨ (upN L p).idle = 0) ∧ (k ≠ 0 → (upN L p).idle = 0) ∧ (upN L p).queue = L.queue.drop k:=by
  have hqN:(upN L p).queue = L.queue.drop k:=by
   have hxx:=hx.queue
   unfold upL at hq
   split at hq
   ·rw [(emit_same _ _).queue] at hq; exact hq
   ·exact hq
  unfold upN at hqN ⊢
  by_cases hc:1 ≤ ackK L p ∧ (ackK L p:Int) ≤ L.sent
  ·rw [if_pos hc] at hqN ⊢
   have hka:ackK L p = k:=by
    have hS:=fill_same (cutL (upM L p) (ackK L p))
    rcases hk with hk | hk
    ·exfalso
     rw [hk,List.drop_zero,hS.queue] at hqN
     have:(L.queue.drop (ackK L p)).length = L.queue.length:=by
      have e:(cutL (upM L p) (ackK L p)).queue = L.queue.drop (ackK L p):=by show (upM L p).queue.drop _ = _; rw [upM_queue]
      rw [e] at hqN; rw [hqN]
     rw [List.length_drop] at this
     omega
    ·exact hk.2.2.symm
   rw [hka]
   have hS:=fill_same (cutL (upM L p) k)
   have hql:(cutL (upM L p) k).queue.length = L.queue.length - k:=by show ((upM L p).queue.drop k).length = _; rw [upM_queue,List.length_drop]
   have hst:(cutL (upM L p) k).sent = ((min 8 L.queue.length - k:Nat):Int):=by show (upM L p).sent - (k:Int) = _; rw [hsn,hf]; omega
   obtain ⟨a,b,c⟩:=fill_eq (L:=cutL (upM L p) k) (k:=min 8 L.queue.length - k) hst (by rw [hql]; omega) (by show (upM L p).out = []; rw [upM_out]; exact ho)
   rw [hql] at a b
   refine ⟨_,rfl,?_,a,.inr ?_,fun _ => ?_,?_⟩
   ·rw [b]; exact List.map_congr_left (fun i _ => (data_same hS _).symm)
   ·rcases c with c | c
    ·rw [c]; rfl
    ·exact c
   ·rcases c with c | c
    ·rw [c]; rfl
    ·exact c
   ·rw [hka] at hqN; exact hqN
  ·rw [if_neg hc] at hqN ⊢
   have hk0:k = 0:=by
    rcases hk with hk | hk
    ·exact hk
    ·rw [← hk.2.2] at hc; exact absurd ⟨hk.1,hk.2.1⟩ hc
   subst hk0
   refine ⟨_,rfl,?_,?_,.inl ?_,fun hx => absurd rfl hx,hqN⟩
   ·rw [upM_out,ho]
    rw [show min 8 (L.queue.length - 0) - (min 8 L.queue.length - 0) = 0 by omega]; rfl
   ·rw [hsn,hf]; rfl
   ·unfold upM; split <;> rfl
 obtain ⟨l,hl,h1,h2,h3,h4,h5⟩:=hN
 have hlen:l.length = min 8 (L.queue.length - k) - (min 8 L.queue.length - k):=by rw [hl]; simp
 have hll:l.length ≤ 8:=by omega
 have hq2:(upL L p).queue.length = L.queue.length - k:=by rw [hq,List.length_drop]
 unfold upL at hq2 ⊢
 by_cases hk2:p.kind = 2
 ·rw [if_pos hk2] at hq2
  rw [if_pos hk2,if_pos hk2]
  have hS:=emit_same (upN L p) (ackP (upN L p))
  refine ⟨⟨?_,?_⟩,l,?_,?_,hl,?_,?_⟩
  ·rw [emit_sent,h2,hS.queue,h5,List.length_drop]
  ·rw [emit_idle]; have:=h.idle; rcases h3 with h3 | h3 <;> rw [h3] <;> omega
  ·rw [emit_out (by rw [h1,List.length_map]; omega),h1,ack_same hS]
   congr 1
   exact List.map_congr_left (fun i _ => (data_same hS _).symm)
  ·have:=huns l.length hlen; unfold upL at this; rw [if_pos hk2] at this; exact this
  ·rw [emit_idle]; exact h3
  ·rw [emit_idle]; exact h4
 ·rw [if_neg hk2] at hq2
  rw [if_neg hk2,if_neg hk2]
  refine ⟨⟨?_,?_⟩,l,?_,?_,hl,h3,h4⟩
  ·rw [h2,h5,List.length_drop]
  ·have:=h.idle; rcases h3 with h3 | h3 <;> rw [h3] <;> omega
  ·rw [h1,List.append_nil]
  ·have:=huns l.length hlen; unfold upL at this; rw [if_neg hk2] at this; exact this
end Go.Proofs.Ytnkkgofpifhoeaa.Pr
end
section
namespace Go.Proofs.Ytnkkgofpifhoeaa.Pr
open Go.Proofs.Ytnkkgofpifhoeaa.Lk
theorem putsX_eq (s b:Int) (ps:List Pkt):∀ {X:Pr},X.way.length ≤ 1024 → putsX X s b ps = { X with way:=(X.way ++ ps.map (fun p => (⟨1 - s,b,p⟩:Fl))).take 1024 }:=by
 induction ps with
 | nil =>
  intro X h
  show X = { X with way:=(X.way ++ []).take 1024 }
  rw [List.append_nil,List.take_of_length_le h]
 | cons p ps ih =>
  intro X h
  show putsX (putX X ⟨1 - s,b,p⟩) s b ps = _
  by_cases hl:X.way.length < 1024
  ·have e:putX X ⟨1 - s,b,p⟩ = { X with way:=X.way ++ [⟨1 - s,b,p⟩] }:=if_pos hl
   rw [e,ih (by show (X.way ++ [_]).length ≤ 1024; rw [List.length_append]; simp only [List.length_singleton]; omega)]
   show ({ X with way:=_ }:Pr) = _
   congr 2
   simp
  ·have e:putX X ⟨1 - s,b,p⟩ = X:=if_neg hl
   rw [e,ih h]
   congr 1
   rw [List.take_append_of_le_length (by omega),List.take_append_of_le_length (by omega)]
theorem outL_self {d:Sd} (h:d.end_.out = []):endF d (outL d.end_) = d:=by
 obtain ⟨e,b,l,la⟩:=d
 obtain ⟨a1,a2,a3,a4,a5,a6,a7,a8,a9,a10,a11,a12⟩:=e
 have h':a12 = []:=h
 subst h'
 rfl
theorem pump_none {X:Pr} {s:Nat} (h:(X.sd s).end_.out = []) (hw:X.way.length ≤ 1024):pumpX X s = X:=by
 unfold pumpX
 rw [h]
 show X.set s (endF (X.sd s) (outL (X.sd s).end_)) = X
 rw [outL_self h,set_self]
def goX (Y:Pr) (s:Nat):Pr:=({ Y with way:=(Y.way ++ (Y.sd s).end_.out.map (fun p => (⟨1 - (s:Int),(Y.sd s).boot,p⟩:Fl))).take 1024 }:Pr).set s (endF (Y.sd s) (outL (Y.sd s).end_))
theorem pump_go {X:Pr} {s:Nat} (hw:X.way.length ≤ 1024):pumpX X s = goX X s:=by
 unfold pumpX
 rw [putsX_eq _ _ _ (show (X.set s _).way.length ≤ 1024 from hw)]
 rfl
theorem go_way {X:Pr} {s:Nat}:(goX X s).way = (X.way ++ (X.sd s).end_.out.map (fun p => (⟨1 - (s:Int),(X.sd s).boot,p⟩:Fl))).take 1024:=rfl
theorem go_sd {X:Pr} {s:Nat}:(goX X s).sd s = endF (X.sd s) (outL (X.sd s).end_):=Pr.set_eq _ _ _
theorem go_ne {X:Pr} {s t:Nat} (h:t ≠ s):(goX X s).sd t = X.sd t:=Pr.set_ne _ h _
theorem pump2 {Y:Pr} {s:Nat} (hs:s < 2) (ho:(Y.sd (1 - s)).end_.out = []) (hw:Y.way.length ≤ 1024):pumpX (pumpX Y 0) 1 = goX Y s:=by
 have hl:(goX Y s).way.length ≤ 1024:=by rw [go_way,List.length_take]; omega
 have h0:s = 0 ∨ s = 1:=by omega
 rcases h0 with rfl | rfl
 ·rw [pump_go hw,pump_none (by rw [go_ne (by decide)]; exact ho) hl]
 ·rw [pump_none ho hw,pump_go hw]
def hdA:Act:=⟨6,0,0,[]⟩
def hdX (X:Pr):Pr:=doX X hdA
def tkL (X:Pr) (f:Fl):Lk:=(takeF (X.en f.dst.toNat) f.boot f.p).1
def tkOut (X:Pr) (f:Fl):List Fl:=(tkL X f).out.map (fun p => (⟨1 - f.dst,(X.sd f.dst.toNat).boot,p⟩:Fl))
theorem takeS_end (d:Sd) (x:Lk × Tk):(takeS d x).end_ = x.1:=by
 unfold takeS
 split
 ·rfl
 ·split
  ·rfl
  ·split <;> rfl
theorem takeS_boot (d:Sd) (x:Lk × Tk):(takeS d x).boot = d.boot:=by
 unfold takeS
 split
 ·rfl
 ·split
  ·rfl
  ·split <;> rfl
structure Hd (X:Pr) (f:Fl) (rest:List Fl) (Y:Pr):Prop where
 way:Y.way = (rest ++ tkOut X f).take 1024
 en:Y.en f.dst.toNat = outL (tkL X f)
 ne:∀ t,t ≠ f.dst.toNat → Y.sd t = X.sd t
theorem hd_do {X:Pr} {N:Nat} (hI:Inv X N) {f:Fl} {rest:List Fl} (hw:X.way = f :: rest):Hd X f rest (hdX X):=by
 have hf:=hI.p.fl f (by rw [hw]; exact List.mem_cons_self)
 have hs:f.dst.toNat < 2:=by have:=hf.dst; omega
 have hb:badA X hdA = 0:=by
  unfold badA hdA
  rw [if_neg (show ¬ ((6:Int) < 1 ∨ (8:Int) < 6) by decide),if_neg (show ¬ ((6:Int) < 6 ∧ (0:Int) ≠ 0 ∧ (0:Int) ≠ 1) by decide),if_neg]
  rw [hw]; simp only [List.length_cons]; omega
 have e0:actX X hdA = deliverX X 0:=rfl
 have e1:deliverX X 0 = ({ X with way:=rest }:Pr).set f.dst.toNat (takeS (X.sd f.dst.toNat) (takeF (X.sd f.dst.toNat).end_ f.boot f.p)):=by
  unfold deliverX
  rw [hw]; rfl
 have hlen:rest.length ≤ 1024:=by have:=hI.p.way; rw [hw] at this; simp only [List.length_cons] at this; omega
 have e2:hdX X = goX (({ X with way:=rest }:Pr).set f.dst.toNat (takeS (X.sd f.dst.toNat) (takeF (X.sd f.dst.toNat).end_ f.boot f.p))) f.dst.toNat:=by
  unfold hdX doX
  rw [if_pos hb,e0,e1]
  refine pump2 hs ?_ hlen
  rw [Pr.set_ne _ (by omega)]
  exact hI.out _ (by omega)
 have hd:(1:Int) - f.dst = 1 - ((f.dst.toNat:Nat):Int):=by have:=hf.dst; omega
 rw [e2]
 refine ⟨?_,?_,fun t ht => ?_⟩
 ·rw [go_way,Pr.set_eq,takeS_end,takeS_boot]
  unfold tkOut tkL
  rw [hd]; rfl
 ·unfold Pr.en
  rw [go_sd,Pr.set_eq]
  show outL (takeS _ _).end_ = _
  rw [takeS_end]; rfl
 ·rw [go_ne ht,Pr.set_ne _ ht]
def delN:Nat → Pr → Pr
 | 0,X => X
 | n + 1,X => delN n (hdX X)
def tkX (X:Pr):Pr:=doX (doX X ⟨4,0,0,[]⟩) ⟨4,1,0,[]⟩
def roundX (X:Pr):Pr:=delN (tkX X).way.length (tkX X)
theorem delN_inv:∀ (n:Nat) {X:Pr} {N:Nat},Inv X N → N + n < 4294967295 → Inv (delN n X) (N + n)
 | 0,X,N,h,_ => h
 | n + 1,X,N,h,hN => by
  have:=delN_inv n (do_inv h (by omega) hdA) (by omega)
  rw [show N + 1 + n = N + (n + 1) by omega] at this
  exact this
def cnt (k:Int) (l:List Fl):Nat:=l.countP (fun f => decide (f.p.kind = k))
theorem cnt_append (k:Int) (a b:List Fl):cnt k (a ++ b) = cnt k a + cnt k b:=by unfold cnt; exact List.countP_append ..
theorem cnt_cons (k:Int) (f:Fl) (l:List Fl):cnt k (f :: l) = cnt k l + if f.p.kind = k then 1 else 0:=by
 unfold cnt
 rw [List.countP_cons]
 simp only [decide_eq_true_eq]
theorem cnt_take (k:Int) (n:Nat) (l:List Fl):cnt k (l.take n) ≤ cnt k l:=by unfold cnt; exact (List.take_sublist n l).countP_le
theorem cnt_sub {k:Int} {a b:List Fl} (h:a.Sublist b):cnt k a ≤ cnt k b:=by unfold cnt; exact h.countP_le
theorem cnt_nil (k:Int):cnt k [] = 0:=rfl
def Kinds (l:List Fl):Prop:=∀ f ∈ l,f.p.kind = 1 ∨ f.p.kind = 2 ∨ f.p.kind = 3
theorem kinds_len {l:List Fl} (h:Kinds l):l.length = cnt 1 l + cnt 2 l + cnt 3 l:=by
 induction l with
 | nil => rfl
 | cons f l ih =>
  have:=ih (fun g hg => h g (List.mem_cons_of_mem _ hg))
  have hk:=h f List.mem_cons_self
  rw [List.length_cons,cnt_cons,cnt_cons,cnt_cons,this]
  rcases hk with hk | hk | hk <;> rw [hk] <;> simp <;> omega
theorem says_kind {L:Lk} {p:Pkt} (h:Says L p):p.kind = 1 ∨ p.kind = 2 ∨ p.kind = 3:=by
 rcases h with h | h | h
 ·rw [h.1]; exact .inl rfl
 ·obtain ⟨_,i,_,hp⟩:=h; rw [hp]; exact .inr (.inl rfl)
 ·rw [h.2]; exact .inr (.inr rfl)
structure OutC (X:Pr) (f:Fl):Prop where
 kinds:∀ p ∈ (tkL X f).out,p.kind = 1 ∨ p.kind = 2 ∨ p.kind = 3
 h:(tkL X f).out.countP (fun p => decide (p.kind = 1)) ≤ if f.p.kind = 1 then 1 else 0
 d:(tkL X f).out.countP (fun p => decide (p.kind = 2)) + uns (tkL X f) ≤ uns (X.en f.dst.toNat)
 a:(tkL X f).out.countP (fun p => decide (p.kind = 3)) ≤ if f.p.kind = 2 then 1 else 0
 wn:Wn (tkL X f)
theorem out_count {X:Pr} {N:Nat} (hI:Inv X N) (hW:∀ s,s < 2 → Wn (X.en s)) {f:Fl} (hf:f ∈ X.way):OutC X f:=by
 have hfl:=hI.p.fl f hf
 have hs:f.dst.toNat < 2:=by have:=hfl.dst; omega
 have hd:=hI.p.side _ hs
 have ho:=hI.out _ hs
 have hw:=hW _ hs
 obtain ⟨hc,hsay⟩:=take_turn hd.fine.ok ho f.boot f.p
 have hkinds:∀ p ∈ (tkL X f).out,p.kind = 1 ∨ p.kind = 2 ∨ p.kind = 3:=fun p hp => says_kind (hsay p hp)
 refine ⟨hkinds,?_,?_,?_,?_⟩ <;> clear hkinds hsay
 all_goals
  unfold tkL Pr.en at *
  generalize (takeF (X.sd f.dst.toNat).end_ f.boot f.p).1 = L' at *
  generalize (takeF (X.sd f.dst.toNat).end_ f.boot f.p).2 = t at *
  generalize (X.sd f.dst.toNat).end_ = L at *
 ·cases hc with
  | none _ => rw [ho]; simp
  | up h1 hk ha hm hss hy => rw [hy,emit_out (by show L.out.length < 1024; rw [ho]; decide)]; show (L.out ++ [_]).countP _ ≤ _; rw [ho,if_pos hk]; exact List.countP_le_length
  | learn h1 hk ha hm hss hy => rw [hy,emit_out (by show L.out.length < 1024; rw [ho]; decide)]; show (L.out ++ [_]).countP _ ≤ _; rw [ho,if_pos hk]; exact List.countP_le_length
  | again h2 hk ha h0 hss hy => rw [hy,emit_out (by rw [ho]; decide),ho,if_pos hk]; exact List.countP_le_length
  | last _ hk _ _ => show L.out.countP _ ≤ _; rw [ho]; simp
  | anew h2 hk ha ht hss hy => rw [hy,emit_out (by show L.out.length < 1024; rw [ho]; decide)]; show (L.out ++ [_]).countP _ ≤ _; rw [ho,if_pos hk]; exact List.countP_le_length
  | signal h2 hk ha hm k hkk hx hy =>
   subst hy
   obtain ⟨_,l,hl,_⟩:=up_out hw ho f.p hkk hx
   rw [hl,List.countP_append,List.countP_map]
   rw [List.countP_eq_zero.2 (by intro i _; simp [dataP])]
   split <;> simp [ackP]
 ·cases hc with
  | none _ => rw [ho]; simp
  | up h1 hk ha hm hss hy =>
   have hq:uns L' = uns L:=by unfold uns; rw [hss.queue]; rfl
   rw [hq,hy,emit_out (by show L.out.length < 1024; rw [ho]; decide)]; show (L.out ++ [_]).countP _ + _ ≤ _; rw [ho]; simp [helloP]
  | learn h1 hk ha hm hss hy =>
   have hq:uns L' = uns L:=by unfold uns; rw [hss.queue]; rfl
   rw [hq,hy,emit_out (by show L.out.length < 1024; rw [ho]; decide)]; show (L.out ++ [_]).countP _ + _ ≤ _; rw [ho]; simp [helloP]
  | again h2 hk ha h0 hss hy =>
   have hq:uns L' = uns L:=by unfold uns; rw [hss.queue]
   rw [hq,hy,emit_out (by rw [ho]; decide),ho]; simp [helloP]
  | last _ hk _ _ =>
   have hq:uns (shut_ L) = 0:=rfl
   rw [hq]; show L.out.countP _ + 0 ≤ _; rw [ho]; simp
  | anew h2 hk ha ht hss hy =>
   have hq:uns L' = 0:=by unfold uns; rw [hss.queue]; rfl
   rw [hq,hy,emit_out (by show L.out.length < 1024; rw [ho]; decide)]; show (L.out ++ [_]).countP _ + _ ≤ _; rw [ho]; simp [helloP]
  | signal h2 hk ha hm k hkk hx hy =>
   subst hy
   obtain ⟨_,l,hl,hlu,_⟩:=up_out hw ho f.p hkk hx
   rw [hl,List.countP_append,List.countP_map]
   have h1:l.countP ((fun p:Pkt => decide (p.kind = 2)) ∘ fun i:Nat => dataP (upL L f.p) (i:Int)) ≤ l.length:=List.countP_le_length
   have h2:(if f.p.kind = 2 then [ackP (upL L f.p)] else []).countP (fun p => decide (p.kind = 2)) = 0:=by split <;> simp [ackP]
   omega
 ·cases hc with
  | none _ => rw [ho]; simp
  | up h1 hk ha hm hss hy => rw [hy,emit_out (by show L.out.length < 1024; rw [ho]; decide)]; show (L.out ++ [_]).countP _ ≤ _; rw [ho]; simp [helloP]
  | learn h1 hk ha hm hss hy => rw [hy,emit_out (by show L.out.length < 1024; rw [ho]; decide)]; show (L.out ++ [_]).countP _ ≤ _; rw [ho]; simp [helloP]
  | again h2 hk ha h0 hss hy => rw [hy,emit_out (by rw [ho]; decide),ho]; simp [helloP]
  | last _ hk _ _ => show L.out.countP _ ≤ _; rw [ho]; simp
  | anew h2 hk ha ht hss hy => rw [hy,emit_out (by show L.out.length < 1024; rw [ho]; decide)]; show (L.out ++ [_]).countP _ ≤ _; rw [ho]; simp [helloP]
  | signal h2 hk ha hm k hkk hx hy =>
   subst hy
   obtain ⟨_,l,hl,_⟩:=up_out hw ho f.p hkk hx
   rw [hl,List.countP_append,List.countP_map]
   rw [List.countP_eq_zero.2 (by intro i _; simp [dataP])]
   split <;> simp [ackP]
 ·cases hc with
  | none _ => exact hw
  | up h1 hk ha hm hss hy => rw [hy]; exact wn_emit (L:={ peerL L f.boot f.p with phase:=2 }) ⟨hw.full,hw.idle⟩ _
  | learn h1 hk ha hm hss hy => rw [hy]; exact wn_emit (L:=peerL L f.boot f.p) ⟨hw.full,hw.idle⟩ _
  | again h2 hk ha h0 hss hy => rw [hy]; exact wn_emit hw _
  | last _ hk _ _ => exact wn_empty rfl rfl hw.idle
  | anew h2 hk ha ht hss hy => rw [hy]; exact wn_emit (wn_empty (L:=peerL (begin_ L) f.boot f.p) rfl rfl (by show 0 ≤ (0:Int) ∧ (0:Int) ≤ 2; decide)) _
  | signal h2 hk ha hm k hkk hx hy =>
   subst hy
   exact (up_out hw ho f.p hkk hx).1
end Go.Proofs.Ytnkkgofpifhoeaa.Pr
end
section
namespace Go.Proofs.Ytnkkgofpifhoeaa.Pr
open Go.Proofs.Ytnkkgofpifhoeaa.Lk
structure RI (X:Pr) (N:Nat):Prop where
 inv:Inv X N
 k:KInv X
 wn:∀ s,s < 2 → Wn (X.en s)
 kinds:Kinds X.way
 tok:∀ s,s < 2 → (X.en s).token ≤ N
theorem wn_out {L:Lk} (h:Wn L):Wn (outL L):=⟨h.full,h.idle⟩
structure WT (X Y:Pr) (N:Nat):Prop where
 wn:∀ s,s < 2 → Wn (Y.en s)
 tok:∀ s,s < 2 → (Y.en s).token ≤ N + 1
theorem wt_set {X:Pr} {N:Nat} (h:RI X N) {s:Nat} {d:Sd} (hw:Wn d.end_) (ht:d.end_.token ≤ N + 1):WT X (X.set s d) N:=by
 refine ⟨fun t hl => ?_,fun t hl => ?_⟩
 ·by_cases hts:t = s
  ·subst hts; rw [set_en]; exact hw
  ·rw [set_en' hts]; exact h.wn t hl
 ·by_cases hts:t = s
  ·subst hts; rw [set_en]; exact ht
  ·rw [set_en' hts]; have:=h.tok t hl; omega
theorem wt_self {X Y:Pr} {N:Nat} (h:RI X N) (he:Y.sd = X.sd):WT X Y N :=
 ⟨fun t hl => by unfold Pr.en; rw [he]; exact h.wn t hl,fun t hl => by unfold Pr.en; rw [he]; have:=h.tok t hl; unfold Pr.en at this; omega⟩
theorem take_tok {L:Lk} {b:Int} {p:Pkt} {L':Lk} {t:Tk} (hc:TakeC L b p L' t):L'.token ≤ L.token + 1:=by
 cases hc with
 | none _ => omega
 | up h1 hk ha hm hss hy => have:L'.token = L.token:=hss.token; omega
 | learn h1 hk ha hm hss hy => have:L'.token = L.token:=hss.token; omega
 | again h2 hk ha h0 hss hy => have:=hss.token; omega
 | last h2 hk ha ht => show L.token ≤ _; omega
 | anew h2 hk ha ht hss hy => have:L'.token = L.token + 1:=hss.token; omega
 | signal h2 hk ha hm k hkk hx hy => have:L'.token = L.token:=hx.token; omega
theorem wt_act {X:Pr} {N:Nat} (h:RI X N) {a:Act} (hb:badA X a = 0):WT X (actX X a) N:=by
 obtain ⟨hk,hsd,hi⟩:=badA_side hb
 unfold actX
 have hside:a.kind < 6 → a.side.toNat < 2:=fun h => by have:=hsd h; omega
 split
 ·have hs:=hside (by omega)
  generalize a.side.toNat = s at *
  have ht:=h.tok s hs
  have hw:=h.wn s hs
  refine wt_set h ?_ ?_
  ·show Wn (openL (X.sd s).end_)
   unfold openL
   split
   ·exact wn_emit (wn_empty (L:=begin_ (X.sd s).end_) rfl rfl (by show 0 ≤ (0:Int) ∧ (0:Int) ≤ 2; decide)) _
   ·exact hw
  ·show (openL (X.sd s).end_).token ≤ _
   unfold openL
   split
   ·rw [(emit_same _ _).token]; show (X.sd s).end_.token + 1 ≤ _; unfold Pr.en at ht; omega
   ·unfold Pr.en at ht; omega
 split
 ·have hs:=hside (by omega)
  generalize a.side.toNat = s at *
  have ht:=h.tok s hs
  have hw:=h.wn s hs
  have he:(shutS (X.sd s)).end_ = shut_ (X.sd s).end_:=by unfold shutS; split <;> rfl
  refine wt_set h ?_ ?_
  ·rw [he]; exact wn_empty rfl rfl hw.idle
  ·rw [he]; show (X.sd s).end_.token ≤ _; unfold Pr.en at ht; omega
 split
 ·have hs:=hside (by omega)
  generalize a.side.toNat = s at *
  have ht:=h.tok s hs
  have hw:=h.wn s hs
  have he:(sendS (X.sd s) a.body).end_ = sendL (X.sd s).end_ a.body:=by unfold sendS; split <;> rfl
  refine wt_set h ?_ ?_
  ·rw [he]; exact wn_send hw (h.inv.out s hs) _
  ·rw [he]
   have:(sendL (X.sd s).end_ a.body).token = (X.sd s).end_.token:=by
    unfold sendL
    split
    ·exact (fill_same _).token
    ·rfl
   rw [this]; unfold Pr.en at ht; omega
 split
 ·have hs:=hside (by omega)
  generalize a.side.toNat = s at *
  have ht:=h.tok s hs
  have hd:=h.inv.p.side s hs
  refine wt_set h (wn_tick (h.wn s hs)) ?_
  show (tick_ (X.sd s).end_).token ≤ _
  rw [(tick_turn hd.fine.ok (h.inv.out s hs) hd.fine.idleq).1.token]; unfold Pr.en at ht; omega
 split
 ·have hs:=hside (by omega)
  generalize a.side.toNat = s at *
  by_cases hm:(X.sd s).boot = 4294967295
  ·have e1:rebootS (X.sd s) = X.sd s:=if_pos hm
   rw [e1,set_self]; exact wt_self h rfl
  ·have e1:(rebootS (X.sd s)).end_ = newL ((X.sd s).boot + 1):=by unfold rebootS; rw [if_neg hm]
   refine wt_set h ?_ ?_
   ·rw [e1]; exact wn_empty rfl rfl (by show 0 ≤ (0:Int) ∧ (0:Int) ≤ 2; decide)
   ·rw [e1]; show (0:Int) ≤ _; omega
 split
 ·obtain ⟨hi0,hil⟩:=hi (by omega)
  have hmem:X.way.getD a.i.toNat nilF ∈ X.way:=by
   rw [List.getD_eq_getElem?_getD,List.getElem?_eq_getElem hil]
   exact List.getElem_mem hil
  have hf:=h.inv.p.fl _ hmem
  unfold deliverX
  generalize X.way.getD a.i.toNat nilF = f at *
  have hs:f.dst.toNat < 2:=by have:=hf.dst; omega
  obtain ⟨hc,_⟩:=take_turn (h.inv.p.side _ hs).fine.ok (h.inv.out _ hs) f.boot f.p
  have ht:=h.tok _ hs
  have hx:=wt_set h (s:=f.dst.toNat) (d:=takeS (X.sd f.dst.toNat) (takeF (X.sd f.dst.toNat).end_ f.boot f.p)) (by rw [takeS_end]; exact (out_count h.inv h.wn hmem).wn) (by rw [takeS_end]; have:=take_tok hc; unfold Pr.en at ht; omega)
  exact ⟨hx.wn,hx.tok⟩
 split
 ·exact wt_self h rfl
 ·exact wt_self h (putX_sd X _)
theorem kinds_pump {X:Pr} {N:Nat} (hI:PInv X N) (h:Kinds X.way) {s:Nat} (hs:s < 2):Kinds (pumpX X s).way:=by
 rw [pump_go hI.way,go_way]
 intro f hf
 rcases List.mem_append.1 (List.mem_of_mem_take hf) with hf | hf
 ·exact h f hf
 ·obtain ⟨p,hp,rfl⟩:=List.mem_map.1 hf
  exact says_kind (hI.says s hs p hp)
theorem kinds_act {X:Pr} {N:Nat} (h:RI X N) {a:Act} (hb:badA X a = 0):Kinds (actX X a).way:=by
 obtain ⟨hk,hsd,hi⟩:=badA_side hb
 have hset:∀ s d,(X.set s d).way = X.way:=fun _ _ => rfl
 unfold actX
 split
 ·exact h.kinds
 split
 ·exact h.kinds
 split
 ·exact h.kinds
 split
 ·exact h.kinds
 split
 ·exact h.kinds
 split
 ·unfold deliverX
  exact fun f hf => h.kinds f (eraseIdx_mem hf)
 split
 ·exact fun f hf => h.kinds f (eraseIdx_mem hf)
 ·obtain ⟨hi0,hil⟩:=hi (by omega)
  unfold putX
  split
  ·intro f hf
   rcases List.mem_append.1 hf with hf | hf
   ·exact h.kinds f hf
   ·rw [List.mem_singleton.1 hf,List.getD_eq_getElem?_getD,List.getElem?_eq_getElem hil]
    exact h.kinds _ (List.getElem_mem hil)
  ·exact h.kinds
theorem wt_pump {X Y:Pr} {N:Nat} (h:WT X Y N) (s:Nat):WT X (pumpX Y s) N:=by
 refine ⟨fun t hl => ?_,fun t hl => ?_⟩
 ·unfold Pr.en
  rw [pump_sd]
  split
  ·rename_i hts; subst hts; exact wn_out (h.wn t hl)
  ·exact h.wn t hl
 ·unfold Pr.en
  rw [pump_sd]
  split
  ·rename_i hts; subst hts; exact h.tok t hl
  ·exact h.tok t hl
theorem ri_do {X:Pr} {N:Nat} (h:RI X N) (hN:N < 4294967295) (a:Act):RI (doX X a) (N + 1):=by
 have h1:=do_inv h.inv hN a
 have h2:=h.k.doX h.inv hN a
 by_cases hb:badA X a = 0
 ·have p0:=act_inv h.inv hN hb
  have p1:=p0.pump (s:=0) (by decide)
  have w:=wt_pump (wt_pump (wt_act h hb) 0) 1
  have k:=kinds_pump p1 (kinds_pump p0 (kinds_act h hb) (by decide)) (s:=1) (by decide)
  have e:doX X a = pumpX (pumpX (actX X a) 0) 1:=if_pos hb
  refine ⟨h1,h2,?_,?_,?_⟩
  ·rw [e]; exact w.wn
  ·rw [e]; exact k
  ·rw [e]; intro s hs; have:=w.tok s hs; omega
 ·have e:doX X a = X:=if_neg hb
  refine ⟨h1,h2,?_,?_,?_⟩
  ·rw [e]; exact h.wn
  ·rw [e]; exact h.kinds
  ·rw [e]; intro s hs; have:=h.tok s hs; omega
theorem ri_new:RI newX 0:=⟨new_inv,new_k,fun s hs => wn_empty rfl rfl (by show 0 ≤ (0:Int) ∧ (0:Int) ≤ 2; decide),fun f hf => (by cases hf),fun s hs => by show (0:Int) ≤ _; omega⟩
theorem ri_run (l:List Act):∀ {X:Pr} {N:Nat},RI X N → N + l.length < 4294967295 → RI (runX X l) (N + l.length):=by
 induction l with
 | nil => exact fun h _ => h
 | cons a l ih =>
  intro X N h hN
  have:=ih (ri_do h (by simp at hN; omega) a) (by simp at hN ⊢; omega)
  rw [show N + 1 + l.length = N + (a :: l).length by simp; omega] at this
  exact this
structure Ti (X:Pr) (s:Nat) (Y:Pr):Prop where
 way:Y.way = (X.way ++ (tick_ (X.en s)).out.map (fun p => (⟨1 - (s:Int),(X.sd s).boot,p⟩:Fl))).take 1024
 sd:Y.sd s = endF (X.sd s) (outL (tick_ (X.en s)))
 ne:∀ t,t ≠ s → Y.sd t = X.sd t
theorem ti_do {X:Pr} {N:Nat} (hI:Inv X N) {s:Nat} (hs:s < 2):Ti X s (doX X ⟨4,(s:Int),0,[]⟩):=by
 have hb:badA X ⟨4,(s:Int),0,[]⟩ = 0:=by
  unfold badA
  rw [if_neg (show ¬ ((4:Int) < 1 ∨ (8:Int) < 4) by decide),if_neg (by show ¬ ((4:Int) < 6 ∧ (s:Int) ≠ 0 ∧ (s:Int) ≠ 1); omega),if_neg (by show ¬ ((6:Int) ≤ 4 ∧ _); omega)]
 have e0:actX X ⟨4,(s:Int),0,[]⟩ = X.set s (endF (X.sd s) (tick_ (X.sd s).end_)):=rfl
 have e2:doX X ⟨4,(s:Int),0,[]⟩ = goX (X.set s (endF (X.sd s) (tick_ (X.sd s).end_))) s:=by
  unfold doX
  rw [if_pos hb,e0]
  refine pump2 hs ?_ hI.p.way
  rw [Pr.set_ne _ (by omega)]
  exact hI.out _ (by omega)
 rw [e2]
 refine ⟨?_,?_,fun t ht => ?_⟩
 ·rw [go_way,Pr.set_eq]; rfl
 ·rw [go_sd,Pr.set_eq]; rfl
 ·rw [go_ne ht,Pr.set_ne _ ht]
theorem tick_out {L:Lk} (hok:L.Ok) (hw:Wn L) (ho:L.out = []):(tick_ L).out = [] ∧ ((tick_ L).idle = L.idle + 1 ∨ L.phase ≠ 1) ∨ (L.phase = 1 ∧ L.idle = 2 ∧ (tick_ L).out = [helloP (tick_ L)]) ∨ (L.phase = 2 ∧ L.idle = 2 ∧ 0 < L.queue.length ∧ (tick_ L).out = (List.range (min 8 L.queue.length)).map (fun i:Nat => dataP (tick_ L) (i:Int))):=by
 have hi:=hw.idle
 have hf:=hw.full
 unfold tick_
 split
 ·rename_i h0; exact .inl ⟨ho,.inr (by omega)⟩
 rename_i h0
 split
 ·rename_i h2; exact .inl ⟨ho,.inr (by omega)⟩
 rename_i h2
 split
 ·exact .inl ⟨ho,.inl rfl⟩
 rename_i h3
 split
 ·rename_i h1
  refine .inr (.inl ⟨h1,by omega,?_⟩)
  rw [emit_out (by show L.out.length < 1024; rw [ho]; decide)]
  show L.out ++ _ = _
  rw [ho,hello_same (emit_same _ _)]
  rfl
 ·rename_i h1
  have hp2:L.phase = 2:=by have:=hok.phase; omega
  refine .inr (.inr ⟨hp2,by omega,?_,?_⟩)
  ·by_cases hq:0 < L.queue.length
   ·exact hq
   ·exfalso
    exact h2 ⟨hp2,by rw [hf]; omega⟩
  ·have e:(rest_ L 0).sent.toNat = min 8 L.queue.length:=by show L.sent.toNat = _; rw [hf]; rfl
   show (sends (L.sent.toNat) (rest_ L 0)).out = _
   rw [show L.sent.toNat = min 8 L.queue.length from e,sends_out _ (by show L.out.length + _ ≤ 1024; rw [ho]; simp only [List.length_nil]; omega)]
   show L.out ++ _ = _
   rw [ho,List.nil_append]
   exact List.map_congr_left (fun i _ => (data_same (sends_same _ _) _).symm)
end Go.Proofs.Ytnkkgofpifhoeaa.Pr
end
section
namespace Go.Proofs.Ytnkkgofpifhoeaa.Pr
open Go.Proofs.Ytnkkgofpifhoeaa.Lk
def Fresh (X:Pr) (s:Nat):Prop:=(X.en s).boot = (X.en (1 - s)).own ∧ (X.en s).yours = (X.en (1 - s)).token
def Jn (X:Pr):Prop:=(X.en 0).phase = 2 ∧ (X.en 1).phase = 2
def Live (X:Pr):Prop:=∀ s,s < 2 → (X.en s).phase ≠ 0
def IsHc (X:Pr) (s:Nat) (f:Fl):Prop:=f.dst = (s:Int) ∧ f.p.kind = 1 ∧ f.boot = (X.en (1 - s)).own ∧ f.p.mine = (X.en (1 - s)).token
def IsHm (X:Pr) (s:Nat) (f:Fl):Prop:=IsHc X s f ∧ f.p.boot = (X.en s).own ∧ f.p.yours = (X.en s).token
def Hc (X:Pr) (s:Nat) (l:List Fl):Prop:=∃ f ∈ l,IsHc X s f
def Hm (X:Pr) (s:Nat) (l:List Fl):Prop:=∃ f ∈ l,IsHm X s f
def SP (X:Pr) (s:Nat):Prop:=((X.en s).phase = 2 ∧ ¬ Fresh X s) ∨ ∃ f ∈ X.way,f.dst = (s:Int) ∧ f.p.kind = 1 ∧ f.p.boot = (X.en s).own ∧ f.p.yours = (X.en s).token ∧ ¬ (f.boot = (X.en (1 - s)).own ∧ f.p.mine = (X.en (1 - s)).token)
open Classical in
noncomputable def spN (X:Pr):Nat:=(if SP X 0 then 1 else 0) + (if SP X 1 then 1 else 0)
theorem spN_le {X Y:Pr} (h:∀ s,s < 2 → SP Y s → SP X s):spN Y ≤ spN X:=by
 unfold spN
 have h0:=h 0 (by decide)
 have h1:=h 1 (by decide)
 by_cases a:SP X 0 <;> by_cases b:SP X 1 <;> by_cases c:SP Y 0 <;> by_cases d:SP Y 1 <;> simp [a,b,c,d] <;> first | exact a (h0 c) | exact b (h1 d) | omega
theorem spN_lt {X Y:Pr} (h:∀ s,s < 2 → SP Y s → SP X s) {t:Nat} (ht:t < 2) (hx:SP X t) (hy:¬ SP Y t):spN Y < spN X:=by
 unfold spN
 have h0:=h 0 (by decide)
 have h1:=h 1 (by decide)
 have ht':t = 0 ∨ t = 1:=by omega
 rcases ht' with rfl | rfl
 ·by_cases b:SP X 1 <;> by_cases d:SP Y 1 <;> simp [hx,hy,b,d] <;> first | exact b (h1 d) | omega
 ·by_cases b:SP X 0 <;> by_cases d:SP Y 0 <;> simp [hx,hy,b,d] <;> first | exact b (h0 d) | omega
theorem jn_any {X:Pr} (h:Jn X) {s:Nat} (hs:s < 2):(X.en s).phase = 2:=by
 have h0:s = 0 ∨ s = 1:=by omega
 rcases h0 with rfl | rfl
 ·exact h.1
 ·exact h.2
theorem jn_of {X:Pr} {s:Nat} (hs:s < 2) (h:(X.en s).phase = 2) (h':(X.en (1 - s)).phase = 2):Jn X:=by
 have h0:s = 0 ∨ s = 1:=by omega
 rcases h0 with rfl | rfl
 ·exact ⟨h,h'⟩
 ·exact ⟨h',h⟩
inductive Step (X Y:Pr) (f:Fl) (s:Nat):Prop
 | quiet (hp:(Y.en s).phase = (X.en s).phase) (ho:(Y.en s).own = (X.en s).own) (ht:(Y.en s).token = (X.en s).token) (hb:(Y.en s).boot = (X.en s).boot) (hy:(Y.en s).yours = (X.en s).yours) (hi:(X.en s).phase = 1 → (Y.en s).idle = (X.en s).idle)
   (he:f.p.kind = 1 → ageF (X.en s) f.boot f.p.mine ≠ -1 → (X.en s).phase = 2 ∧ ageF (X.en s) f.boot f.p.mine = 0 ∧ (f.p.seq ≠ 0 ∨ (tkL X f).out = [helloP (tkL X f)] ∧ (tkL X f).known = true)):Step X Y f s
 | meet (h1:(X.en s).phase = 1) (hk:f.p.kind = 1) (ha:ageF (X.en s) f.boot f.p.mine ≠ -1) (ho:(Y.en s).own = (X.en s).own) (ht:(Y.en s).token = (X.en s).token) (hb:(Y.en s).boot = f.boot) (hy:(Y.en s).yours = f.p.mine)
   (hp:(Y.en s).phase = if meantF (X.en s) f.p = true then 2 else 1) (hout:(tkL X f).out = [helloP (tkL X f)]) (hkn:(tkL X f).known = true):Step X Y f s
 | anew (h2:(X.en s).phase = 2) (hk:f.p.kind = 1) (ha:ageF (X.en s) f.boot f.p.mine = 1) (ho:(Y.en s).own = (X.en s).own) (ht:(Y.en s).token = (X.en s).token + 1) (hb:(Y.en s).boot = f.boot) (hy:(Y.en s).yours = f.p.mine) (hp:(Y.en s).phase = 1)
   (hout:(tkL X f).out = [helloP (tkL X f)]) (hkn:(tkL X f).known = true):Step X Y f s
theorem step_of {X Y:Pr} {N:Nat} (h:RI X N) (hN:N < 4294967295) (hL:Live X) {f:Fl} {rest:List Fl} (hw:X.way = f :: rest) (hd:Hd X f rest Y):Step X Y f f.dst.toNat:=by
 have hf:=h.inv.p.fl f (by rw [hw]; exact List.mem_cons_self)
 have hs:f.dst.toNat < 2:=by have:=hf.dst; omega
 have hside:=h.inv.p.side _ hs
 have ho:=h.inv.out _ hs
 have hph:=hL _ hs
 have htok:=h.tok _ hs
 obtain ⟨hc,_⟩:=take_turn hside.fine.ok ho f.boot f.p
 have hen:=hd.en
 have hwn:=h.wn _ hs
 have hup:=hside.fine.up
 have hE:∀ L':Lk,tkL X f = L' → Y.en f.dst.toNat = outL L':=fun L' e => by rw [← e]; exact hen
 generalize hT:(takeF (X.sd f.dst.toNat).end_ f.boot f.p).2 = t at hc
 have hL':tkL X f = (takeF (X.sd f.dst.toNat).end_ f.boot f.p).1:=rfl
 generalize hLL:(takeF (X.sd f.dst.toNat).end_ f.boot f.p).1 = L' at hc hL'
 have hY:=hE L' hL'
 have hlen:(X.sd f.dst.toNat).end_.out.length < 1024:=by rw [ho]; decide
 cases hc with
 | none hr =>
  have hY':Y.en f.dst.toNat = outL (X.en f.dst.toNat):=hY
  refine .quiet (by rw [hY']; rfl) (by rw [hY']; rfl) (by rw [hY']; rfl) (by rw [hY']; rfl) (by rw [hY']; rfl) (fun _ => by rw [hY']; rfl) (fun hk hna => ?_)
  rcases hr with hr | hr | hr | hr
  ·exact absurd hr hph
  ·exact absurd hr hna
  ·exact absurd hk hr.1
  ·exact ⟨hr.2.1,hr.2.2.1,.inl hr.2.2.2⟩
 | up h1 hk ha hm hss hy =>
  refine .meet h1 hk ha (by rw [hY]; exact hss.own) (by rw [hY]; exact hss.token) (by rw [hY]; exact hss.boot) (by rw [hY]; exact hss.yours) ?_ ?_ (by rw [hL']; exact hss.known)
  ·rw [if_pos (show meantF (X.en f.dst.toNat) f.p = true from hm),hY]; exact hss.phase
  ·rw [hL',hello_same hss]
   have:=emit_out (L:={ peerL (X.sd f.dst.toNat).end_ f.boot f.p with phase:=2 }) hlen (helloP { peerL (X.sd f.dst.toNat).end_ f.boot f.p with phase:=2 })
   rw [hy,this]; show (X.sd f.dst.toNat).end_.out ++ _ = _; rw [ho]; rfl
 | learn h1 hk ha hm hss hy =>
  refine .meet h1 hk ha (by rw [hY]; exact hss.own) (by rw [hY]; exact hss.token) (by rw [hY]; exact hss.boot) (by rw [hY]; exact hss.yours) ?_ ?_ (by rw [hL']; exact hss.known)
  ·rw [if_neg (show ¬ meantF (X.en f.dst.toNat) f.p = true by show ¬ meantF (X.sd f.dst.toNat).end_ f.p = true; rw [hm]; decide),hY]; exact hss.phase.trans h1
  ·rw [hL',hello_same hss]
   have:=emit_out (L:=peerL (X.sd f.dst.toNat).end_ f.boot f.p) hlen (helloP (peerL (X.sd f.dst.toNat).end_ f.boot f.p))
   rw [hy,this]; show (X.sd f.dst.toNat).end_.out ++ _ = _; rw [ho]; rfl
 | again h2 hk ha h0 hss hy =>
  have h2':(X.en f.dst.toNat).phase = 2:=h2
  refine .quiet (by rw [hY]; exact hss.phase) (by rw [hY]; exact hss.own) (by rw [hY]; exact hss.token) (by rw [hY]; exact hss.boot) (by rw [hY]; exact hss.yours) (fun h1 => by omega) (fun _ _ => ⟨h2,ha,.inr ⟨?_,by rw [hL']; exact hss.known.trans (hup h2)⟩⟩)
  rw [hL',hello_same hss,hy,emit_out hlen,ho]; rfl
 | last h2 hk ha ht =>
  exfalso
  unfold Pr.en at htok
  omega
 | anew h2 hk ha ht hss hy =>
  refine .anew h2 hk ha (by rw [hY]; exact hss.own) (by rw [hY]; exact hss.token) (by rw [hY]; exact hss.boot) (by rw [hY]; exact hss.yours) (by rw [hY]; exact hss.phase) ?_ (by rw [hL']; exact hss.known)
  rw [hL',hello_same hss]
  have:=emit_out (L:=peerL (begin_ (X.sd f.dst.toNat).end_) f.boot f.p) hlen (helloP (peerL (begin_ (X.sd f.dst.toNat).end_) f.boot f.p))
  rw [hy,this]; show (X.sd f.dst.toNat).end_.out ++ _ = _; rw [ho]; rfl
 | signal h2 hk ha hm k hkk hx hy =>
  have h2':(X.en f.dst.toNat).phase = 2:=h2
  exact .quiet (by rw [hY]; exact hx.phase) (by rw [hY]; exact hx.own) (by rw [hY]; exact hx.token) (by rw [hY]; exact hx.boot) (by rw [hY]; exact hx.yours) (fun h1 => by omega) (fun hk1 => absurd hk1 hk)
theorem live_step {X Y:Pr} {f:Fl} {rest:List Fl} (hL:Live X) (hd:Hd X f rest Y) (hst:Step X Y f f.dst.toNat):Live Y:=by
 intro t ht
 by_cases hts:t = f.dst.toNat
 ·subst hts
  cases hst with
  | quiet hp _ _ _ _ _ _ => rw [hp]; exact hL _ ht
  | meet _ _ _ _ _ _ _ hp _ _ => rw [hp]; split <;> decide
  | anew _ _ _ _ _ _ _ hp _ _ => rw [hp]; decide
 ·unfold Pr.en; rw [hd.ne t hts]; exact hL t ht
theorem emitted {X Y:Pr} {f:Fl} {R E:List Fl} {N:Nat} (hI:Inv X N) (hw:X.way = f :: (R ++ E)) (hd:Hd X f (R ++ E) Y) (hout:(tkL X f).out = [helloP (tkL X f)]) (hkn:(tkL X f).known = true) :
  ∃ g ∈ (E ++ tkOut X f).take (1024 - R.length),IsHc Y (1 - f.dst.toNat) g ∧ g.p.boot = (Y.en f.dst.toNat).boot ∧ g.p.yours = (Y.en f.dst.toNat).yours ∧ (g.p.seq ≠ 0 → (Y.en f.dst.toNat).phase = 2):=by
 have hfm:=hI.p.fl f (by rw [hw]; exact List.mem_cons_self)
 have hs:f.dst.toNat < 2:=by have:=hfm.dst; omega
 have hl:=hI.p.way
 rw [hw] at hl
 simp only [List.length_cons,List.length_append] at hl
 have ho:tkOut X f = [⟨1 - f.dst,(X.sd f.dst.toNat).boot,helloP (tkL X f)⟩]:=by unfold tkOut; rw [hout]; rfl
 have hY:=hd.en
 have hoo:1 - (1 - f.dst.toNat) = f.dst.toNat:=by omega
 refine ⟨⟨1 - f.dst,(X.sd f.dst.toNat).boot,helloP (tkL X f)⟩,?_,⟨?_,rfl,?_,?_⟩,?_,?_,fun hq => ?_⟩
 ·rw [ho,List.take_of_length_le (by simp only [List.length_append,List.length_singleton]; omega)]
  exact List.mem_append.2 (.inr (List.mem_singleton.2 rfl))
 ·show 1 - f.dst = _
  have:=hfm.dst; omega
 ·rw [hoo,hY]
  show (X.sd f.dst.toNat).boot = (tkL X f).own
  rw [(hI.p.side _ hs).boot]
  obtain ⟨hc,_⟩:=take_turn (hI.p.side _ hs).fine.ok (hI.out _ hs) f.boot f.p
  have:(tkL X f).own = (X.en f.dst.toNat).own:=by
   unfold tkL Pr.en
   generalize (takeF (X.sd f.dst.toNat).end_ f.boot f.p).2 = t at hc
   generalize (takeF (X.sd f.dst.toNat).end_ f.boot f.p).1 = L' at hc
   cases hc with
   | none _ => rfl
   | up _ _ _ _ hss _ => exact hss.own
   | learn _ _ _ _ hss _ => exact hss.own
   | again _ _ _ _ hss _ => exact hss.own
   | last _ _ _ _ => rfl
   | anew _ _ _ _ hss _ => exact hss.own
   | signal _ _ _ _ _ _ hx _ => exact hx.own
  exact this.symm
 ·rw [hoo,hY]; rfl
 ·rw [hY]; show (if (tkL X f).known = true then (tkL X f).boot else 0) = _; rw [if_pos hkn]; rfl
 ·rw [hY]; show (if (tkL X f).known = true then (tkL X f).yours else 0) = _; rw [if_pos hkn]; rfl
 ·rw [hY]
  by_cases hp:(tkL X f).phase = 2
  ·exact hp
  ·exact absurd (show (if (tkL X f).phase = 2 then (1:Int) else 0) = 0 from if_neg hp) hq
end Go.Proofs.Ytnkkgofpifhoeaa.Pr
end
section
namespace Go.Proofs.Ytnkkgofpifhoeaa.Pr
open Go.Proofs.Ytnkkgofpifhoeaa.Lk
structure Dl (X Y:Pr) (f:Fl) (R E E':List Fl) (N:Nat):Prop where
 ri:RI X N
 small:N < 4294967295
 live:Live X
 way:X.way = f :: (R ++ E)
 hd:Hd X f (R ++ E) Y
 st:Step X Y f f.dst.toNat
 e':E' = (E ++ tkOut X f).take (1024 - R.length)
section
variable {X Y:Pr} {f:Fl} {R E E':List Fl} {N:Nat} (h:Dl X Y f R E E' N)
include h
theorem Dl.mem:f ∈ X.way:=by rw [h.way]; exact List.mem_cons_self
theorem Dl.s2:f.dst.toNat < 2:=by have:=(h.ri.inv.p.fl f h.mem).dst; omega
theorem Dl.dst:f.dst = ((f.dst.toNat:Nat):Int):=by have:=(h.ri.inv.p.fl f h.mem).dst; omega
theorem Dl.keep {g:Fl} (hg:g ∈ E):g ∈ E':=by
 have hl:=h.ri.inv.p.way
 rw [h.way] at hl
 simp only [List.length_cons,List.length_append] at hl
 rw [h.e',List.take_append,List.take_of_length_le (by omega)]
 exact List.mem_append.2 (.inl hg)
theorem Dl.rest {g:Fl} (hg:g ∈ Y.way):g ∈ X.way ∨ g ∈ tkOut X f:=by
 rw [h.hd.way] at hg
 rcases List.mem_append.1 (List.mem_of_mem_take hg) with hg | hg
 ·left; rw [h.way]; exact List.mem_cons_of_mem _ hg
 ·exact .inr hg
theorem Dl.other:Y.en (1 - f.dst.toNat) = X.en (1 - f.dst.toNat):=by unfold Pr.en; rw [h.hd.ne _ (by have:=h.s2; omega)]
theorem Dl.k2:Le2 f.boot f.p.mine (X.en (1 - f.dst.toNat)).own (X.en (1 - f.dst.toNat)).token:=(h.ri.k.fl f h.mem).k2
theorem Dl.out_att {g:Fl} (hg:g ∈ tkOut X f):g.dst = ((1 - f.dst.toNat:Nat):Int) ∧ g.boot = (X.en f.dst.toNat).own ∧ g.p.mine = (Y.en f.dst.toNat).token:=by
 unfold tkOut at hg
 obtain ⟨p,hp,rfl⟩:=List.mem_map.1 hg
 have hside:=h.ri.inv.p.side _ h.s2
 obtain ⟨_,hsay⟩:=take_turn hside.fine.ok (h.ri.inv.out _ h.s2) f.boot f.p
 have h1:=says_att (hsay p hp)
 have hd:=h.dst
 have hs:=h.s2
 refine ⟨by show 1 - f.dst = _; omega,hside.boot,?_⟩
 rw [h.hd.en]; exact h1.1
theorem Dl.no_new (hj:(X.en f.dst.toNat).phase = 2) (hj':(X.en (1 - f.dst.toNat)).phase = 2):ageF (X.en f.dst.toNat) f.boot f.p.mine ≠ 1:=by
 have hjn:=jn_of h.s2 hj hj'
 have hu:=h.ri.k.up_up hjn.1 hjn.2 _ h.s2
 have hk:=h.k2
 unfold ageF
 unfold Le2 at hk
 intro hx
 split at hx
 ·exact absurd hx (by decide)
 split at hx
 ·split at hx
  ·exact absurd hx (by decide)
  split at hx
  ·exact absurd hx (by decide)
  ·omega
 ·omega
theorem Dl.jn (hj:Jn X):Jn Y:=by
 have hs:=h.s2
 have h2:=jn_any hj hs
 have h2':=jn_any hj (s:=1 - f.dst.toNat) (by omega)
 have hY:(Y.en f.dst.toNat).phase = 2:=by
  cases h.st with
  | quiet hp _ _ _ _ _ _ => rw [hp]; exact h2
  | meet h1 _ _ _ _ _ _ _ _ _ => omega
  | anew _ _ ha _ _ _ _ _ _ _ => exact absurd ha (h.no_new h2 h2')
 exact jn_of hs hY (by rw [h.other]; exact h2')
theorem Dl.anew_less (h2:(X.en f.dst.toNat).phase = 2) (ha:ageF (X.en f.dst.toNat) f.boot f.p.mine = 1):¬ Fresh X f.dst.toNat ∧ (X.en (1 - f.dst.toNat)).phase ≠ 2 ∧ ¬ Le2 (X.en (1 - f.dst.toNat)).own (X.en (1 - f.dst.toNat)).token (X.en f.dst.toNat).boot (X.en f.dst.toNat).yours:=by
 have hk:=h.k2
 unfold Le2 at hk
 have hage:(X.en f.dst.toNat).boot < f.boot ∨ (X.en f.dst.toNat).boot = f.boot ∧ (X.en f.dst.toNat).yours < f.p.mine:=by
  unfold ageF at ha
  split at ha
  ·exact absurd ha (by decide)
  split at ha
  ·split at ha
   ·exact absurd ha (by decide)
   split at ha
   ·exact absurd ha (by decide)
   ·omega
  ·omega
 refine ⟨fun hf => ?_,fun hp => h.no_new h2 hp ha,fun hl => ?_⟩
 ·have h1:=hf.1; have h2:=hf.2; omega
 ·unfold Le2 at hl; omega
theorem Dl.cur:(∀ u,(Y.en u).own = (X.en u).own) ∧ ((∃ h2:(X.en f.dst.toNat).phase = 2,ageF (X.en f.dst.toNat) f.boot f.p.mine = 1 ∧ (Y.en f.dst.toNat).token = (X.en f.dst.toNat).token + 1 ∧ (Y.en f.dst.toNat).phase = 1) ∨ ∀ u,(Y.en u).token = (X.en u).token):=by
 have hall:∀ {P:Lk → Lk → Prop},(∀ L,P L L) → P (Y.en f.dst.toNat) (X.en f.dst.toNat) → ∀ u,P (Y.en u) (X.en u):=fun hr hp u => by
  by_cases hu:u = f.dst.toNat
  ·rw [hu]; exact hp
  ·have:Y.en u = X.en u:=by unfold Pr.en; rw [h.hd.ne u hu]
   rw [this]; exact hr _
 cases h.st with
 | quiet _ ho ht _ _ _ _ => exact ⟨hall (P:=fun a b => a.own = b.own) (fun _ => rfl) ho,.inr (hall (P:=fun a b => a.token = b.token) (fun _ => rfl) ht)⟩
 | meet _ _ _ ho ht _ _ _ _ _ => exact ⟨hall (P:=fun a b => a.own = b.own) (fun _ => rfl) ho,.inr (hall (P:=fun a b => a.token = b.token) (fun _ => rfl) ht)⟩
 | anew h2 _ ha ho ht _ _ hp _ _ => exact ⟨hall (P:=fun a b => a.own = b.own) (fun _ => rfl) ho,.inl ⟨h2,ha,ht,hp⟩⟩
theorem Dl.sp:∀ t,t < 2 → SP Y t → SP X t:=by
 intro t ht hsp
 have hs:=h.s2
 have ho:=h.other
 have hcur:=h.cur
 have hdst:=h.dst
 by_cases hts:t = f.dst.toNat
 ·subst hts
  rcases hsp with ⟨hp,hnf⟩ | ⟨g,hg,g1,g2,g3,g4,g5⟩
  ·unfold Fresh at hnf
   rw [ho] at hnf
   cases h.st with
   | quiet hp' _ _ hb hy _ _ => exact .inl ⟨by rw [← hp']; exact hp,by unfold Fresh; rw [← hb,← hy]; exact hnf⟩
   | meet h1 hk ha _ _ hb hy hp' _ _ =>
    rw [hp'] at hp
    by_cases hm:meantF (X.en f.dst.toNat) f.p = true
    ·obtain ⟨m1,m2⟩:=meant_iff hm
     exact .inr ⟨f,h.mem,hdst,hk,m1,m2,by rw [← hb,← hy]; exact hnf⟩
    ·rw [if_neg hm] at hp; exact absurd hp (by decide)
   | anew _ _ _ _ _ _ _ hp' _ _ => omega
  ·rcases h.rest hg with hg | hg
   ·rw [hcur.1] at g3
    rw [ho] at g5
    rcases hcur.2 with ⟨_,_,htk,_⟩ | htk
    ·exfalso
     rw [htk] at g4
     have:=(h.ri.k.fl g hg).k2'
     rw [show g.dst.toNat = f.dst.toNat by omega] at this
     unfold Le2 at this
     omega
    ·rw [htk] at g4
     exact .inr ⟨g,hg,g1,g2,g3,g4,g5⟩
   ·have:=(h.out_att hg).1; omega
 ·have hto:t = 1 - f.dst.toNat:=by omega
  have hoo:1 - (1 - f.dst.toNat) = f.dst.toNat:=by omega
  subst hto
  rcases hsp with ⟨hp,hnf⟩ | ⟨g,hg,g1,g2,g3,g4,g5⟩
  ·rw [ho] at hp
   unfold Fresh at hnf
   rw [ho,hoo,hcur.1] at hnf
   rcases hcur.2 with ⟨h2,ha,htk,_⟩ | htk
   ·exact absurd ha (h.no_new h2 hp)
   ·rw [htk] at hnf
    exact .inl ⟨hp,by unfold Fresh; rw [hoo]; exact hnf⟩
  ·rw [ho] at g3 g4
   rw [hoo,hcur.1] at g5
   rcases h.rest hg with hg | hg
   ·rcases hcur.2 with ⟨h2,ha,htk,_⟩ | htk
    ·by_cases hx:g.boot = (X.en f.dst.toNat).own ∧ g.p.mine = (X.en f.dst.toNat).token
     ·exfalso
      have k3:=(h.ri.k.fl g hg).k3
      rw [show g.dst.toNat = 1 - f.dst.toNat by omega,hoo,g3,g4] at k3
      exact (h.anew_less h2 ha).2.2 (k3 hx.1)
     ·exact .inr ⟨g,hg,g1,g2,g3,g4,by rw [hoo]; exact hx⟩
    ·rw [htk] at g5
     exact .inr ⟨g,hg,g1,g2,g3,g4,by rw [hoo]; exact g5⟩
   ·obtain ⟨_,b,c⟩:=h.out_att hg
    exact absurd ⟨b,c⟩ g5
theorem Dl.spN_le:spN Y ≤ spN X:=Pr.spN_le h.sp
theorem Dl.anew_ (h2:(X.en f.dst.toNat).phase = 2) (ha:ageF (X.en f.dst.toNat) f.boot f.p.mine = 1) (htk:(Y.en f.dst.toNat).token = (X.en f.dst.toNat).token + 1) (hp1:(Y.en f.dst.toNat).phase = 1):spN Y < spN X ∧ ∃ t,t < 2 ∧ Hc Y t E':=by
 have hs:=h.s2
 refine ⟨spN_lt h.sp hs (.inl ⟨h2,(h.anew_less h2 ha).1⟩) ?_,1 - f.dst.toNat,by omega,?_⟩
 ·rintro (⟨hp,_⟩ | ⟨g,hg,g1,g2,g3,g4,g5⟩)
  ·omega
  ·rcases h.rest hg with hg | hg
   ·rw [h.cur.1] at g3
    rw [htk] at g4
    have:=(h.ri.k.fl g hg).k2'
    rw [show g.dst.toNat = f.dst.toNat by omega] at this
    unfold Le2 at this
    omega
   ·have:=(h.out_att hg).1; omega
 ·cases h.st with
  | quiet _ _ ht _ _ _ _ => omega
  | meet h1 _ _ _ _ _ _ _ _ _ => omega
  | anew _ _ _ _ _ _ _ _ hout hkn =>
   obtain ⟨g,hg,hc,_⟩:=emitted h.ri.inv h.way h.hd hout hkn
   exact ⟨g,by rw [h.e']; exact hg,hc⟩
theorem Dl.hc_keep (htk:∀ u,(Y.en u).token = (X.en u).token) {t:Nat} {g:Fl} (hg:IsHc X t g):IsHc Y t g:=⟨hg.1,hg.2.1,by rw [h.cur.1]; exact hg.2.2.1,by rw [htk]; exact hg.2.2.2⟩
theorem Dl.hm_keep (htk:∀ u,(Y.en u).token = (X.en u).token) {t:Nat} {g:Fl} (hg:IsHm X t g):IsHm Y t g:=⟨h.hc_keep htk hg.1,by rw [h.cur.1]; exact hg.2.1,by rw [htk]; exact hg.2.2⟩
theorem Dl.hc_any {t:Nat} (ht:t < 2) (hg:Hc X t E):∃ t',t' < 2 ∧ Hc Y t' E':=by
 rcases h.cur.2 with ⟨h2,ha,htk,hp⟩ | htk
 ·exact (h.anew_ h2 ha htk hp).2
 ·obtain ⟨g,hg,hx⟩:=hg
  exact ⟨t,ht,g,h.keep hg,h.hc_keep htk hx⟩
theorem Dl.not_old (hx:IsHc X f.dst.toNat f):ageF (X.en f.dst.toNat) f.boot f.p.mine ≠ -1:=by
 have k1:=h.ri.k.k1 _ h.s2
 rw [← hx.2.2.1,← hx.2.2.2] at k1
 unfold Le2 at k1
 unfold ageF
 intro hc
 split at hc
 ·omega
 split at hc
 ·split at hc
  ·omega
  split at hc <;> exact absurd hc (by decide)
 ·exact absurd hc (by decide)
theorem Dl.answer (hx:IsHc X f.dst.toNat f) (htk:∀ u,(Y.en u).token = (X.en u).token):Jn X ∨ ∃ g ∈ E',IsHm Y (1 - f.dst.toNat) g ∧ (g.p.seq ≠ 0 → (Y.en f.dst.toNat).phase = 2):=by
 have hs:=h.s2
 have hoo:1 - (1 - f.dst.toNat) = f.dst.toNat:=by omega
 have hna:=h.not_old hx
 have ho:=h.other
 have fin:(tkL X f).out = [helloP (tkL X f)] → (tkL X f).known = true → (Y.en f.dst.toNat).boot = f.boot → (Y.en f.dst.toNat).yours = f.p.mine → ∃ g ∈ E',IsHm Y (1 - f.dst.toNat) g ∧ (g.p.seq ≠ 0 → (Y.en f.dst.toNat).phase = 2):=fun hout hkn hb hy => by
  obtain ⟨g,hg,hc,gb,gy,gs⟩:=emitted h.ri.inv h.way h.hd hout hkn
  refine ⟨g,by rw [h.e']; exact hg,⟨hc,?_,?_⟩,gs⟩
  ·rw [gb,hb,hx.2.2.1,ho]
  ·rw [gy,hy,hx.2.2.2,ho]
 cases h.st with
 | quiet hp _ _ hb hy _ he =>
  obtain ⟨h2,ha,hq⟩:=he hx.2.1 hna
  rcases hq with hq | hq
  ·have k6:=(h.ri.k.fl f h.mem).k6 hx.2.1 hq hx.2.2.1 hx.2.2.2
   have hl:=h.live (1 - f.dst.toNat) (by omega)
   have hph:=(h.ri.inv.p.side (1 - f.dst.toNat) (by omega)).fine.ok.phase
   exact .inl (jn_of hs h2 (by unfold Pr.en at *; omega))
  ·have haz:=age_zero ha
   exact .inr (fin hq.1 hq.2 (by rw [hb,haz.1]) (by rw [hy,haz.2]))
 | meet _ _ _ _ _ hb hy _ hout hkn => exact .inr (fin hout hkn hb hy)
 | anew _ _ _ _ ht _ _ _ _ _ => have:=htk f.dst.toNat; omega
end
def W1 (c b:Nat) (X:Pr) (R E:List Fl):Prop:=Jn X ∨ (spN X < c ∧ ∃ t,t < 2 ∧ Hc X t E) ∨ (spN X ≤ c ∧ (Hc X b R ∨ ∃ a,a < 2 ∧ Hm X a E))
def Lock (X:Pr) (a:Nat):Prop:=(X.en a).phase = 2 ∧ Fresh X a ∧ Fresh X (1 - a)
def W2 (c a:Nat) (X:Pr) (R E:List Fl):Prop:=Jn X ∨ (spN X < c ∧ ∃ t,t < 2 ∧ Hc X t E) ∨ (spN X ≤ c ∧ (Hm X a R ∨ (Lock X a ∧ Hm X (1 - a) E)))
def W3 (c a:Nat) (X:Pr) (R E:List Fl):Prop:=Jn X ∨ (spN X < c ∧ ∃ t,t < 2 ∧ Hc X t E) ∨ (spN X ≤ c ∧ Lock X a ∧ Hm X (1 - a) R)
section
variable {X Y:Pr} {f:Fl} {R E E':List Fl} {N:Nat} (h:Dl X Y f R E E' N)
include h
theorem Dl.w1 {c b:Nat} (hb:b < 2) (hw:W1 c b X (f :: R) E):W1 c b Y R E':=by
 rcases hw with hw | ⟨hc,t,ht,hh⟩ | ⟨hc,hw⟩
 ·exact .inl (h.jn hw)
 ·exact .inr (.inl ⟨Nat.lt_of_le_of_lt h.spN_le hc,h.hc_any ht hh⟩)
 ·rcases h.cur.2 with ⟨h2,ha,htk,hp⟩ | htk
  ·obtain ⟨a1,a2⟩:=h.anew_ h2 ha htk hp
   exact .inr (.inl ⟨by omega,a2⟩)
  ·have hle:=h.spN_le
   rcases hw with ⟨g,hg,hx⟩ | ⟨a,ha,g,hg,hx⟩
   ·rcases List.mem_cons.1 hg with hg | hg
    ·subst hg
     have hbs:b = g.dst.toNat:=by have:=hx.1; omega
     subst hbs
     rcases h.answer hx htk with hj | ⟨g',hg',hm,_⟩
     ·exact .inl (h.jn hj)
     ·exact .inr (.inr ⟨by omega,.inr ⟨_,by omega,g',hg',hm⟩⟩)
    ·exact .inr (.inr ⟨by omega,.inl ⟨g,hg,h.hc_keep htk hx⟩⟩)
   ·exact .inr (.inr ⟨by omega,.inr ⟨a,ha,g,h.keep hg,h.hm_keep htk hx⟩⟩)
theorem Dl.fresh_keep (htk:∀ u,(Y.en u).token = (X.en u).token) {a:Nat} (ha:a < 2) (hf:Fresh X a):Fresh Y a:=by
 by_cases hs:a = f.dst.toNat
 ·subst hs
  have k2:=h.k2
  have hk:(Y.en f.dst.toNat).boot = (X.en f.dst.toNat).boot ∧ (Y.en f.dst.toNat).yours = (X.en f.dst.toNat).yours:=by
   cases h.st with
   | quiet _ _ _ hb hy _ _ => exact ⟨hb,hy⟩
   | meet _ _ hna _ _ hb hy _ _ _ =>
    have hge:=age_ge hna
    have h1:=hf.1; have h2:=hf.2
    unfold Le2 at k2
    rw [hb,hy]; omega
   | anew _ _ _ _ ht _ _ _ _ _ => have:=htk f.dst.toNat; omega
  exact ⟨by rw [hk.1,h.cur.1]; exact hf.1,by rw [hk.2,htk]; exact hf.2⟩
 ·have e:Y.en a = X.en a:=by unfold Pr.en; rw [h.hd.ne a hs]
  exact ⟨by rw [e,h.cur.1]; exact hf.1,by rw [e,htk]; exact hf.2⟩
theorem Dl.lock_keep (htk:∀ u,(Y.en u).token = (X.en u).token) {a:Nat} (ha:a < 2) (hl:Lock X a):Lock Y a:=by
 refine ⟨?_,h.fresh_keep htk ha hl.2.1,h.fresh_keep htk (by omega) hl.2.2⟩
 by_cases hs:a = f.dst.toNat
 ·subst hs
  cases h.st with
  | quiet hp _ _ _ _ _ _ => rw [hp]; exact hl.1
  | meet h1 _ _ _ _ _ _ _ _ _ => have:=hl.1; omega
  | anew _ _ _ _ ht _ _ _ _ _ => have:=htk f.dst.toNat; omega
 ·have e:Y.en a = X.en a:=by unfold Pr.en; rw [h.hd.ne a hs]
  rw [e]; exact hl.1
theorem Dl.w2 {c a:Nat} (hb:a < 2) (hw:W2 c a X (f :: R) E):W2 c a Y R E':=by
 rcases hw with hw | ⟨hc,t,ht,hh⟩ | ⟨hc,hw⟩
 ·exact .inl (h.jn hw)
 ·exact .inr (.inl ⟨Nat.lt_of_le_of_lt h.spN_le hc,h.hc_any ht hh⟩)
 ·rcases h.cur.2 with ⟨h2,ha,htk,hp⟩ | htk
  ·obtain ⟨a1,a2⟩:=h.anew_ h2 ha htk hp
   exact .inr (.inl ⟨by omega,a2⟩)
  ·have hle:=h.spN_le
   rcases hw with ⟨g,hg,hx⟩ | ⟨hl,g,hg,hx⟩
   ·rcases List.mem_cons.1 hg with hg | hg
    ·subst hg
     have hbs:a = g.dst.toNat:=by have:=hx.1.1; omega
     subst hbs
     have hs:=h.s2
     have hoo:1 - (1 - g.dst.toNat) = g.dst.toNat:=by omega
     rcases h.answer hx.1 htk with hj | ⟨g',hg',hm,_⟩
     ·exact .inl (h.jn hj)
     ·have hna:=h.not_old hx.1
      have hfo:Fresh X (1 - g.dst.toNat):=by
       have k3:=(h.ri.k.fl g h.mem).k3 hx.1.2.2.1
       have k1:=h.ri.k.k1 (1 - g.dst.toNat) (by omega)
       rw [hx.2.1,hx.2.2] at k3
       rw [hoo] at k1
       unfold Le2 at k3 k1
       unfold Fresh
       rw [hoo]
       omega
      have hph:(Y.en g.dst.toNat).phase = 2 ∧ Fresh Y g.dst.toNat:=by
       have ho:=h.other
       cases h.st with
       | quiet hp _ _ hb hy _ he =>
        obtain ⟨h2,ha,_⟩:=he hx.1.2.1 hna
        have haz:=age_zero ha
        exact ⟨by rw [hp]; exact h2,by rw [hb,ho,← haz.1]; exact hx.1.2.2.1,by rw [hy,ho,← haz.2]; exact hx.1.2.2.2⟩
       | meet _ _ _ _ _ hb hy hp _ _ =>
        have hmt:meantF (X.en g.dst.toNat) g.p = true:=by unfold meantF; exact decide_eq_true ⟨hx.2.1,hx.2.2⟩
        exact ⟨by rw [hp,if_pos hmt],by rw [hb,ho]; exact hx.1.2.2.1,by rw [hy,ho]; exact hx.1.2.2.2⟩
       | anew _ _ _ _ ht _ _ _ _ _ => have:=htk g.dst.toNat; omega
      exact .inr (.inr ⟨by omega,.inr ⟨⟨hph.1,hph.2,h.fresh_keep htk (by omega) hfo⟩,g',hg',hm⟩⟩)
    ·exact .inr (.inr ⟨by omega,.inl ⟨g,hg,h.hm_keep htk hx⟩⟩)
   ·exact .inr (.inr ⟨by omega,.inr ⟨h.lock_keep htk hb hl,g,h.keep hg,h.hm_keep htk hx⟩⟩)
theorem Dl.w3 {c a:Nat} (hb:a < 2) (hw:W3 c a X (f :: R) E):W3 c a Y R E':=by
 rcases hw with hw | ⟨hc,t,ht,hh⟩ | ⟨hc,hl,g,hg,hx⟩
 ·exact .inl (h.jn hw)
 ·exact .inr (.inl ⟨Nat.lt_of_le_of_lt h.spN_le hc,h.hc_any ht hh⟩)
 ·rcases h.cur.2 with ⟨h2,ha,htk,hp⟩ | htk
  ·obtain ⟨a1,a2⟩:=h.anew_ h2 ha htk hp
   exact .inr (.inl ⟨by omega,a2⟩)
  ·have hle:=h.spN_le
   rcases List.mem_cons.1 hg with hg | hg
   ·subst hg
    left
    have hbs:1 - a = g.dst.toNat:=by have:=hx.1.1; omega
    have hx':IsHm X g.dst.toNat g:=by rw [← hbs]; exact hx
    have hao:a = 1 - g.dst.toNat:=by omega
    have hna:=h.not_old hx'.1
    have hoph:(Y.en (1 - g.dst.toNat)).phase = 2:=by rw [h.other,← hao]; exact hl.1
    refine jn_of h.s2 ?_ hoph
    cases h.st with
    | quiet hp _ _ hb hy _ he => obtain ⟨h2,_⟩:=he hx'.1.2.1 hna; rw [hp]; exact h2
    | meet _ _ _ _ _ hb hy hp _ _ =>
     have hmt:meantF (X.en g.dst.toNat) g.p = true:=by unfold meantF; exact decide_eq_true ⟨hx'.2.1,hx'.2.2⟩
     rw [hp,if_pos hmt]
    | anew _ _ _ _ ht _ _ _ _ _ => have:=htk g.dst.toNat; omega
   ·exact .inr (.inr ⟨by omega,h.lock_keep htk hb hl,g,hg,h.hm_keep htk hx⟩)
end
end Go.Proofs.Ytnkkgofpifhoeaa.Pr
end
section
namespace Go.Proofs.Ytnkkgofpifhoeaa.Pr
open Go.Proofs.Ytnkkgofpifhoeaa.Lk
theorem del_waves {P:Pr → List Fl → List Fl → Prop} (step:∀ (X Y:Pr) (f:Fl) (R E E':List Fl) (N:Nat),Dl X Y f R E E' N → P X (f :: R) E → P Y R E') :
  ∀ (R E:List Fl) (X:Pr) (N:Nat),N + R.length < 4294967295 → RI X N → Live X → X.way = R ++ E → P X R E → RI (delN R.length X) (N + R.length) ∧ Live (delN R.length X) ∧ P (delN R.length X) [] (delN R.length X).way:=by
 intro R
 induction R with
 | nil =>
  intro E X N hN hr hl hw hP
  refine ⟨hr,hl,?_⟩
  show P X [] X.way
  rw [hw]; exact hP
 | cons f R ih =>
  intro E X N hN hr hl hw hP
  simp only [List.length_cons] at hN
  have hd:=hd_do hr.inv (f:=f) (rest:=R ++ E) (by rw [hw]; rfl)
  have hlen:R.length ≤ 1024:=by have:=hr.inv.p.way; rw [hw] at this; simp only [List.length_append,List.length_cons] at this; omega
  have hway:(hdX X).way = R ++ (E ++ tkOut X f).take (1024 - R.length):=by
   rw [hd.way,List.append_assoc,List.take_append,List.take_of_length_le hlen]
  have hst:=step_of hr (by omega) hl (f:=f) (rest:=R ++ E) (by rw [hw]; rfl) hd
  have hD:Dl X (hdX X) f R E ((E ++ tkOut X f).take (1024 - R.length)) N:=⟨hr,by omega,hl,by rw [hw]; rfl,hd,hst,rfl⟩
  obtain ⟨a,b,c⟩:=ih _ (hdX X) (N + 1) (by omega) (ri_do hr (by omega) hdA) (live_step hl hd hst) hway (step X (hdX X) f R E _ N hD hP)
  rw [show N + 1 + R.length = N + (f :: R).length by simp only [List.length_cons]; omega] at a
  exact ⟨a,b,c⟩
def U (X:Pr):Nat:=uns (X.en 0) + uns (X.en 1)
theorem cnt_out (X:Pr) (f:Fl) (k:Int):cnt k (tkOut X f) = (tkL X f).out.countP (fun p => decide (p.kind = k)):=by
 unfold cnt tkOut
 rw [List.countP_map]; rfl
theorem uns_le {X:Pr} {N:Nat} (h:RI X N) {s:Nat} (hs:s < 2):uns (X.en s) ≤ 56:=by
 have:=(h.inv.p.side s hs).fine.ok.queue
 unfold uns Pr.en; omega
theorem u_le {X:Pr} {N:Nat} (h:RI X N):U X ≤ 112:=by
 have h0:=uns_le h (s:=0) (by decide)
 have h1:=uns_le h (s:=1) (by decide)
 unfold U; omega
theorem sum2 {X Y:Pr} (v:Lk → Nat) {s:Nat} (hs:s < 2) {a:Nat} (h:v (Y.en s) + a ≤ v (X.en s)) (ho:Y.en (1 - s) = X.en (1 - s)):v (Y.en 0) + v (Y.en 1) + a ≤ v (X.en 0) + v (X.en 1):=by
 have h0:s = 0 ∨ s = 1:=by omega
 rcases h0 with rfl | rfl
 ·have e:Y.en 1 = X.en 1:=ho
  rw [e]; omega
 ·have e:Y.en 0 = X.en 0:=ho
  rw [e]; omega
structure OutN (X Y:Pr) (f:Fl):Prop where
 h:cnt 1 (tkOut X f) ≤ if f.p.kind = 1 then 1 else 0
 d:U Y + cnt 2 (tkOut X f) ≤ U X
 a:cnt 3 (tkOut X f) ≤ if f.p.kind = 2 then 1 else 0
 l:(tkOut X f).length = cnt 1 (tkOut X f) + cnt 2 (tkOut X f) + cnt 3 (tkOut X f)
section
variable {X Y:Pr} {f:Fl} {R E E':List Fl} {N:Nat} (h:Dl X Y f R E E' N)
include h
theorem Dl.outn:OutN X Y f:=by
 have hc:=out_count h.ri.inv h.ri.wn h.mem
 refine ⟨by rw [cnt_out]; exact hc.h,?_,by rw [cnt_out]; exact hc.a,kinds_len ?_⟩
 ·rw [cnt_out]
  refine sum2 uns h.s2 ?_ h.other
  rw [h.hd.en]
  have:=hc.d
  show uns (tkL X f) + _ ≤ _
  omega
 ·intro g hg
  obtain ⟨p,hp,rfl⟩:=List.mem_map.1 hg
  exact hc.kinds p hp
end
structure Cn (X:Pr) (R E:List Fl) (hh dd mm:Nat):Prop where
 h:cnt 1 R + cnt 1 E ≤ hh
 d:cnt 2 E + U X ≤ 112
 a:cnt 3 E + cnt 2 R ≤ dd
 l:R.length + E.length + U X ≤ mm
theorem kind_of {X:Pr} {N:Nat} (h:RI X N) {f:Fl} (hf:f ∈ X.way):f.p.kind = 1 ∨ f.p.kind = 2 ∨ f.p.kind = 3:=h.kinds f hf
section
variable {X Y:Pr} {f:Fl} {R E E':List Fl} {N:Nat} (h:Dl X Y f R E E' N)
include h
theorem Dl.cn {hh dd mm:Nat} (hc:Cn X (f :: R) E hh dd mm):Cn Y R E' hh dd mm:=by
 have ho:=h.outn
 have h1:=ho.h; have h2:=ho.d; have h3:=ho.a; have h4:=ho.l
 have c1:=hc.h; have c2:=hc.d; have c3:=hc.a; have c4:=hc.l
 rw [cnt_cons] at c1 c3
 have t1:=cnt_take 1 (1024 - R.length) (E ++ tkOut X f)
 have t2:=cnt_take 2 (1024 - R.length) (E ++ tkOut X f)
 have t3:=cnt_take 3 (1024 - R.length) (E ++ tkOut X f)
 rw [← h.e',cnt_append] at t1 t2 t3
 have t4:E'.length ≤ E.length + (tkOut X f).length:=by rw [h.e',List.length_take,List.length_append]; omega
 have hk:=kind_of h.ri h.mem
 simp only [List.length_cons] at c4
 refine ⟨by omega,by omega,by omega,?_⟩
 have:(if f.p.kind = 1 then 1 else 0) + (if f.p.kind = 2 then 1 else 0) ≤ (1:Nat):=by
  rcases hk with hk | hk | hk <;> rw [hk] <;> decide
 omega
theorem Dl.full {hh dd mm:Nat} (hc:Cn X (f :: R) E hh dd mm) (hm:mm ≤ 1024):E' = E ++ tkOut X f:=by
 have ho:=h.outn
 have h1:=ho.h; have h2:=ho.d; have h3:=ho.a; have h4:=ho.l
 have c4:=hc.l
 simp only [List.length_cons] at c4
 have hk:=kind_of h.ri h.mem
 have:(if f.p.kind = 1 then 1 else 0) + (if f.p.kind = 2 then 1 else 0) ≤ (1:Nat):=by
  rcases hk with hk | hk | hk <;> rw [hk] <;> decide
 rw [h.e',List.take_of_length_le (by rw [List.length_append]; omega)]
end
theorem cn_start {X:Pr} {N:Nat} (h:RI X N):Cn X X.way [] (cnt 1 X.way) (cnt 2 X.way) (X.way.length + 112):=by
 have:=u_le h
 refine ⟨by rw [cnt_nil]; omega,by rw [cnt_nil]; omega,by rw [cnt_nil]; omega,?_⟩
 simp only [List.length_nil]; omega
structure TkS (X Y:Pr) (s:Nat):Prop where
 same:∀ u,u < 2 → Same (X.en u) (Y.en u)
 mem:∀ g ∈ X.way,g ∈ Y.way
 new:∀ g ∈ Y.way,g ∈ X.way ∨ (g.dst = ((1 - s:Nat):Int) ∧ g.boot = (X.en s).own ∧ g.p.mine = (X.en s).token)
 h:cnt 1 Y.way ≤ cnt 1 X.way + if (X.en s).phase = 1 then 1 else 0
 d:cnt 2 Y.way ≤ cnt 2 X.way + 8
 a:cnt 3 Y.way ≤ cnt 3 X.way
 hello:X.way.length < 1024 → (X.en s).phase = 1 → (X.en s).idle = 2 → Hc Y (1 - s) Y.way
 idle:(X.en s).phase = 1 → (X.en s).idle ≠ 2 → (Y.en s).idle = (X.en s).idle + 1
 ne:∀ u,u ≠ s → Y.en u = X.en u
theorem tks_of {X:Pr} {N:Nat} (hr:RI X N) {s:Nat} (hs:s < 2):TkS X (doX X ⟨4,(s:Int),0,[]⟩) s:=by
 have hT:=ti_do hr.inv hs
 generalize doX X ⟨4,(s:Int),0,[]⟩ = Y at hT
 have hd:=hr.inv.p.side s hs
 have ho:=hr.inv.out s hs
 have hwn:=hr.wn s hs
 have hwl:=hr.inv.p.way
 obtain ⟨hsame,hsay⟩:=tick_turn hd.fine.ok ho hd.fine.idleq
 have hout:=tick_out hd.fine.ok hwn ho
 have hY:Y.en s = outL (tick_ (X.en s)):=by unfold Pr.en; rw [hT.sd]; rfl
 have hne:∀ u,u ≠ s → Y.en u = X.en u:=fun u hu => by unfold Pr.en; rw [hT.ne u hu]
 have hS:∀ u,u < 2 → Same (X.en u) (Y.en u):=fun u hu => by
  by_cases hus:u = s
  ·subst hus
   rw [hY]; exact hsame.trans ⟨rfl,rfl,rfl,rfl,rfl,rfl,rfl,rfl,rfl⟩
  ·rw [hne u hus]; exact Same.refl _
 have hlo:(tick_ (X.en s)).out.map (fun p => (⟨1 - (s:Int),(X.sd s).boot,p⟩:Fl)) = (tick_ (X.en s)).out.map (fun p => (⟨1 - (s:Int),(X.sd s).boot,p⟩:Fl)):=rfl
 have hcnt:∀ k,cnt k Y.way ≤ cnt k X.way + (tick_ (X.en s)).out.countP (fun p => decide (p.kind = k)):=fun k => by
  rw [hT.way]
  refine Nat.le_trans (cnt_take _ _ _) ?_
  rw [cnt_append]
  refine Nat.add_le_add_left ?_ _
  unfold cnt
  rw [List.countP_map]; exact Nat.le_refl _
 have hc:(tick_ (X.en s)).out.countP (fun p => decide (p.kind = 1)) ≤ (if (X.en s).phase = 1 then 1 else 0) ∧ (tick_ (X.en s)).out.countP (fun p => decide (p.kind = 2)) ≤ 8 ∧ (tick_ (X.en s)).out.countP (fun p => decide (p.kind = 3)) = 0:=by
  rcases hout with ⟨h1,_⟩ | ⟨h1,_,h2⟩ | ⟨h1,_,_,h2⟩
  ·unfold Pr.en; rw [h1]; simp
  ·unfold Pr.en; rw [h2,if_pos h1]; simp [helloP]
  ·unfold Pr.en; rw [h2]
   refine ⟨?_,?_,?_⟩
   ·rw [List.countP_map,List.countP_eq_zero.2 (by intro i _; simp [dataP])]; exact Nat.zero_le _
   ·refine Nat.le_trans List.countP_le_length ?_
    rw [List.length_map,List.length_range]; omega
   ·rw [List.countP_map,List.countP_eq_zero.2 (by intro i _; simp [dataP])]
 refine ⟨hS,fun g hg => ?_,fun g hg => ?_,by have:=hcnt 1; omega,by have:=hcnt 2; omega,by have:=hcnt 3; omega,fun hroom h1 h2 => ?_,fun h1 h2 => ?_,hne⟩
 ·rw [hT.way,List.take_append,List.take_of_length_le hwl]
  exact List.mem_append.2 (.inl hg)
 ·rw [hT.way] at hg
  rcases List.mem_append.1 (List.mem_of_mem_take hg) with hg | hg
  ·exact .inl hg
  ·obtain ⟨p,hp,rfl⟩:=List.mem_map.1 hg
   have ha:=says_att (hsay p hp)
   refine .inr ⟨by show 1 - (s:Int) = _; omega,hd.boot,?_⟩
   show p.mine = _
   rw [ha.1]; exact hsame.token
 ·rcases hout with ⟨_,h3⟩ | ⟨_,_,h3⟩ | ⟨h3,_⟩
  ·exfalso
   rcases h3 with h3 | h3
   ·have hle:=(wn_tick hwn).idle
    have h3':(tick_ (X.en s)).idle = (X.en s).idle + 1:=h3
    omega
   ·exact h3 h1
  ·refine ⟨⟨1 - (s:Int),(X.sd s).boot,helloP (tick_ (X.en s))⟩,?_,?_,rfl,?_,?_⟩
   ·rw [hT.way]; unfold Pr.en; rw [h3,List.take_of_length_le (by simp only [List.length_append,List.length_map,List.length_singleton]; omega)]
    exact List.mem_append.2 (.inr (List.mem_singleton.2 rfl))
   ·show 1 - (s:Int) = _; omega
   ·rw [show 1 - (1 - s) = s by omega,(hS s hs).own]; exact hd.boot
   ·rw [show 1 - (1 - s) = s by omega,(hS s hs).token]; exact hsame.token
  ·unfold Pr.en at h1; omega
 ·rcases hout with ⟨_,h3⟩ | ⟨_,h3,_⟩ | ⟨h3,_⟩
  ·rcases h3 with h3 | h3
   ·rw [hY]; exact h3
   ·exact absurd h1 h3
  ·exact absurd h3 h2
  ·unfold Pr.en at h1; omega
section
variable {X Y:Pr} {s:Nat} (h:TkS X Y s) (hs:s < 2)
include h
theorem TkS.jn (hj:Jn X):Jn Y:=⟨(h.same 0 (by decide)).phase.trans hj.1,(h.same 1 (by decide)).phase.trans hj.2⟩
theorem TkS.live (hl:Live X):Live Y:=fun u hu => by rw [(h.same u hu).phase]; exact hl u hu
theorem TkS.hc_ {t:Nat} (ht:t < 2) {g:Fl} (hg:IsHc X t g):IsHc Y t g:=⟨hg.1,hg.2.1,by rw [(h.same _ (by omega)).own]; exact hg.2.2.1,by rw [(h.same _ (by omega)).token]; exact hg.2.2.2⟩
theorem TkS.hc {t:Nat} (ht:t < 2) (hg:Hc X t X.way):Hc Y t Y.way:=by
 obtain ⟨g,hg,hx⟩:=hg
 exact ⟨g,h.mem g hg,h.hc_ ht hx⟩
theorem TkS.hm {t:Nat} (ht:t < 2) (hg:Hm X t X.way):Hm Y t Y.way:=by
 obtain ⟨g,hg,hx⟩:=hg
 exact ⟨g,h.mem g hg,h.hc_ ht hx.1,by rw [(h.same _ ht).own]; exact hx.2.1,by rw [(h.same _ ht).token]; exact hx.2.2⟩
theorem TkS.fresh {a:Nat} (ha:a < 2) (hf:Fresh X a):Fresh Y a:=by
 have e:=h.same a ha
 have e':=h.same (1 - a) (by omega)
 exact ⟨by rw [e.boot,e'.own]; exact hf.1,by rw [e.yours,e'.token]; exact hf.2⟩
theorem TkS.lock {a:Nat} (ha:a < 2) (hl:Lock X a):Lock Y a:=⟨by rw [(h.same a ha).phase]; exact hl.1,h.fresh ha hl.2.1,h.fresh (by omega) hl.2.2⟩
include hs
theorem TkS.spn:spN Y ≤ spN X:=by
 refine spN_le (fun t ht hsp => ?_)
 have e:=h.same t ht
 have e':=h.same (1 - t) (by omega)
 rcases hsp with ⟨hp,hnf⟩ | ⟨g,hg,g1,g2,g3,g4,g5⟩
 ·exact .inl ⟨by rw [← e.phase]; exact hp,fun hf => hnf (h.fresh ht hf)⟩
 ·rw [e.own] at g3
  rw [e.token] at g4
  rw [e'.own,e'.token] at g5
  rcases h.new g hg with hg | ⟨n1,n2,n3⟩
  ·exact .inr ⟨g,hg,g1,g2,g3,g4,g5⟩
  ·have:1 - t = s:=by omega
   rw [this] at g5
   exact absurd ⟨n2,n3⟩ g5
end
end Go.Proofs.Ytnkkgofpifhoeaa.Pr
end
section
namespace Go.Proofs.Ytnkkgofpifhoeaa.Pr
open Go.Proofs.Ytnkkgofpifhoeaa.Lk
def RJ (X:Pr) (N:Nat):Prop:=∃ M,M ≤ N ∧ RI X M
theorem RJ.mono {X:Pr} {N N':Nat} (h:RJ X N) (hN:N ≤ N'):RJ X N':=by
 obtain ⟨M,a,b⟩:=h
 exact ⟨M,by omega,b⟩
theorem RJ.do {X:Pr} {N:Nat} (h:RJ X N) (hN:N < 4294967295) (a:Act):RJ (doX X a) (N + 1):=by
 obtain ⟨M,x,y⟩:=h
 exact ⟨M + 1,by omega,ri_do y (by omega) a⟩
structure Tk2 (X Z Y:Pr):Prop where
 t0:TkS X Z 0
 t1:TkS Z Y 1
theorem RJ.tk {X:Pr} {N:Nat} (h:RJ X N) (hN:N + 2 < 4294967295):RJ (tkX X) (N + 2) ∧ Tk2 X (doX X ⟨4,0,0,[]⟩) (tkX X):=by
 have h1:=h.do (by omega) ⟨4,0,0,[]⟩
 refine ⟨(h1.do (by omega) ⟨4,1,0,[]⟩).mono (by omega),?_,?_⟩
 ·obtain ⟨M,_,y⟩:=h
  exact tks_of y (s:=0) (by decide)
 ·obtain ⟨M,_,y⟩:=h1
  exact tks_of y (s:=1) (by decide)
theorem round_ind {P:Pr → List Fl → List Fl → Prop} {X:Pr} {N:Nat} (hr:RJ X N) (hN:N + 1026 < 4294967295) (hl:Live X) (step:∀ (X Y:Pr) (f:Fl) (R E E':List Fl) (N:Nat),Dl X Y f R E E' N → P X (f :: R) E → P Y R E')
  (start:P (tkX X) (tkX X).way []):RJ (roundX X) (N + 1026) ∧ Live (roundX X) ∧ P (roundX X) [] (roundX X).way:=by
 obtain ⟨⟨M,hM,hr2⟩,hT⟩:=hr.tk (by omega)
 have hlen:=hr2.inv.p.way
 obtain ⟨a,b,c⟩:=del_waves step (tkX X).way [] (tkX X) M (by omega) hr2 (hT.t1.live (hT.t0.live hl)) (by simp) start
 exact ⟨⟨_,by omega,a⟩,b,c⟩
structure Rm (X:Pr) (h d a:Nat):Prop where
 h:cnt 1 X.way ≤ h
 d:cnt 2 X.way ≤ d
 a:cnt 3 X.way ≤ a
theorem Rm.len {X:Pr} {N h d a:Nat} (hr:RJ X N) (hR:Rm X h d a):X.way.length ≤ h + d + a:=by
 obtain ⟨M,_,y⟩:=hr
 have:=kinds_len y.kinds
 have h1:=hR.h; have h2:=hR.d; have h3:=hR.a
 omega
theorem Rm.tk {X Z Y:Pr} {h d a:Nat} (hR:Rm X h d a) (hT:Tk2 X Z Y):Rm Y (h + 2) (d + 16) a ∧ Rm Z (h + 1) (d + 8) a ∧ (Jn X → Rm Y h (d + 16) a):=by
 have h1:=hT.t0.h; have h2:=hT.t1.h
 have d1:=hT.t0.d; have d2:=hT.t1.d
 have a1:=hT.t0.a; have a2:=hT.t1.a
 have r1:=hR.h; have r2:=hR.d; have r3:=hR.a
 have e1:(if (X.en 0).phase = 1 then 1 else 0) ≤ (1:Nat):=by split <;> omega
 have e2:(if (Z.en 1).phase = 1 then 1 else 0) ≤ (1:Nat):=by split <;> omega
 refine ⟨⟨by omega,by omega,by omega⟩,⟨by omega,by omega,by omega⟩,fun hj => ⟨?_,by omega,by omega⟩⟩
 have hz:=hT.t0.jn hj
 rw [if_neg (by rw [hj.1]; decide)] at h1
 rw [if_neg (by rw [hz.2]; decide)] at h2
 omega
theorem round_cn {P:Pr → List Fl → List Fl → Prop} {X0:Pr} {N h d a:Nat} (hr:RJ X0 N) (hN:N + 1026 < 4294967295) (hl:Live X0) (hR:Rm X0 h d a)
  (step:∀ (X Y:Pr) (f:Fl) (R E E':List Fl) (N:Nat),Dl X Y f R E E' N → (h + 2 + (d + 16) + a + 112 ≤ 1024 → E' = E ++ tkOut X f) → P X (f :: R) E → P Y R E')
  (start:P (tkX X0) (tkX X0).way []):RJ (roundX X0) (N + 1026) ∧ Live (roundX X0) ∧ Rm (roundX X0) (h + 2) 112 (d + 16) ∧ (Jn X0 → Rm (roundX X0) h 112 (d + 16)) ∧ P (roundX X0) [] (roundX X0).way:=by
 obtain ⟨hr2,hT⟩:=hr.tk (by omega)
 obtain ⟨r1,r2,r3⟩:=hR.tk hT
 have hlen:=r1.len hr2
 obtain ⟨M,_,y⟩:=hr2
 have hc:=cn_start y
 obtain ⟨a1,b1,c1,p1⟩:=round_ind (P:=fun X R E => Cn X R E (cnt 1 (tkX X0).way) (cnt 2 (tkX X0).way) ((tkX X0).way.length + 112) ∧ P X R E) hr hN hl (fun X Y f R E E' N hD hp => ⟨hD.cn hp.1,step X Y f R E E' N hD (fun hm => hD.full hp.1 (by omega)) hp.2⟩) ⟨hc,start⟩
 have k1:=c1.h; have k2:=c1.d; have k3:=c1.a
 rw [cnt_nil] at k1 k3
 have q1:=r1.h; have q2:=r1.d; have q3:=r1.a
 refine ⟨a1,b1,⟨by omega,by omega,by omega⟩,fun hj => ?_,p1⟩
 have r4:=(r3 hj).h
 exact ⟨by omega,by omega,by omega⟩
theorem round_rm {X0:Pr} {N h d a:Nat} (hr:RJ X0 N) (hN:N + 1026 < 4294967295) (hl:Live X0) (hR:Rm X0 h d a):RJ (roundX X0) (N + 1026) ∧ Live (roundX X0) ∧ Rm (roundX X0) (h + 2) 112 (d + 16) ∧ (Jn X0 → Rm (roundX X0) h 112 (d + 16)):=by
 obtain ⟨a1,b1,c1,d1,_⟩:=round_cn (P:=fun _ _ _ => True) hr hN hl hR (fun _ _ _ _ _ _ _ _ _ _ => trivial) trivial
 exact ⟨a1,b1,c1,d1⟩
theorem round_jn {X:Pr} {N:Nat} (hr:RJ X N) (hN:N + 1026 < 4294967295) (hl:Live X) (hj:Jn X):Jn (roundX X):=by
 obtain ⟨_,hT⟩:=hr.tk (by omega)
 exact (round_ind (P:=fun X _ _ => Jn X) hr hN hl (fun _ _ _ _ _ _ _ hD hp => hD.jn hp) (hT.t1.jn (hT.t0.jn hj))).2.2
def Stage:Nat → Pr → Prop
 | 0,X => ∃ a,a < 2 ∧ Lock X a ∧ Hm X (1 - a) X.way
 | 1,X => ∃ a,a < 2 ∧ Hm X a X.way
 | 2,X => ∃ a,a < 2 ∧ Hc X a X.way
 | _,_ => False
def Gw (r:Nat) (X:Pr):Prop:=Jn X ∨ ∃ c k,3 * c + k ≤ r ∧ spN X ≤ c ∧ Stage k X
theorem Gw.mono {r r':Nat} {X:Pr} (h:Gw r X) (hr:r ≤ r'):Gw r' X:=by
 rcases h with h | ⟨c,k,a,b⟩
 ·exact .inl h
 ·exact .inr ⟨c,k,by omega,b⟩
theorem spn2 (X:Pr):spN X ≤ 2:=by unfold spN; split <;> split <;> omega
theorem Tk2.spn {X Z Y:Pr} (h:Tk2 X Z Y):spN Y ≤ spN X:=Nat.le_trans (h.t1.spn (by decide)) (h.t0.spn (by decide))
theorem round_gw {X:Pr} {N r:Nat} (hr:RJ X N) (hN:N + 1026 < 4294967295) (hl:Live X) (hg:Gw r X):Jn (roundX X) ∨ 0 < r ∧ Gw (r - 1) (roundX X):=by
 rcases hg with hg | ⟨c,k,hc,hs,hk⟩
 ·exact .inl (round_jn hr hN hl hg)
 obtain ⟨_,hT⟩:=hr.tk (by omega)
 have hsp:=hT.spn
 have again:∀ {c':Nat},c' < c → (∃ t,t < 2 ∧ Hc (roundX X) t (roundX X).way) → spN (roundX X) ≤ c' → 0 < r ∧ Gw (r - 1) (roundX X):=fun {c'} h1 h2 h3 => ⟨by omega,.inr ⟨c',2,by omega,h3,h2⟩⟩
 match k,hk with
 | 2,⟨b,hb,hh⟩ =>
  obtain ⟨_,_,h3⟩:=round_ind (P:=W1 c b) hr hN hl (fun _ _ _ _ _ _ _ hD hp => hD.w1 hb hp) (.inr (.inr ⟨by omega,.inl (hT.t1.hc hb (hT.t0.hc hb hh))⟩))
  rcases h3 with h3 | ⟨h3,h4⟩ | ⟨h3,⟨_,h4,_⟩ | h4⟩
  ·exact .inl h3
  ·exact .inr (again (c':=c - 1) (by omega) h4 (by omega))
  ·cases h4
  ·exact .inr ⟨by omega,.inr ⟨c,1,by omega,h3,h4⟩⟩
 | 1,⟨b,hb,hh⟩ =>
  obtain ⟨_,_,h3⟩:=round_ind (P:=W2 c b) hr hN hl (fun _ _ _ _ _ _ _ hD hp => hD.w2 hb hp) (.inr (.inr ⟨by omega,.inl (hT.t1.hm hb (hT.t0.hm hb hh))⟩))
  rcases h3 with h3 | ⟨h3,h4⟩ | ⟨h3,⟨_,h4,_⟩ | h4⟩
  ·exact .inl h3
  ·exact .inr (again (c':=c - 1) (by omega) h4 (by omega))
  ·cases h4
  ·exact .inr ⟨by omega,.inr ⟨c,0,by omega,h3,b,hb,h4⟩⟩
 | 0,⟨b,hb,hlk,hh⟩ =>
  obtain ⟨_,_,h3⟩:=round_ind (P:=W3 c b) hr hN hl (fun _ _ _ _ _ _ _ hD hp => hD.w3 hb hp) (.inr (.inr ⟨by omega,hT.t1.lock hb (hT.t0.lock hb hlk),hT.t1.hm (by omega) (hT.t0.hm (by omega) hh)⟩))
  rcases h3 with h3 | ⟨h3,h4⟩ | ⟨h3,_,_,h4,_⟩
  ·exact .inl h3
  ·exact .inr (again (c':=c - 1) (by omega) h4 (by omega))
  ·cases h4
def Aw (m:Nat) (X:Pr):Prop:=Gw 8 X ∨ ∃ d,d < 2 ∧ (X.en d).phase = 1 ∧ 2 ≤ (X.en d).idle + m
theorem aw_any {X:Pr} {N:Nat} (hr:RJ X N) (hl:Live X):Aw 2 X:=by
 obtain ⟨M,_,y⟩:=hr
 by_cases h0:(X.en 0).phase = 2
 ·by_cases h1:(X.en 1).phase = 2
  ·exact .inl (.inl ⟨h0,h1⟩)
  ·have a:=(y.inv.p.side 1 (by decide)).fine.ok.phase
   have b:=hl 1 (by decide)
   have c:=(y.wn 1 (by decide)).idle
   unfold Pr.en at *
   exact .inr ⟨1,by decide,by unfold Pr.en; omega,by unfold Pr.en; omega⟩
 ·have a:=(y.inv.p.side 0 (by decide)).fine.ok.phase
  have b:=hl 0 (by decide)
  have c:=(y.wn 0 (by decide)).idle
  unfold Pr.en at *
  exact .inr ⟨0,by decide,by unfold Pr.en; omega,by unfold Pr.en; omega⟩
def WA (d:Nat) (i:Int) (X:Pr) (R E:List Fl):Prop:=Jn X ∨ (∃ t,t < 2 ∧ Hc X t E) ∨ ((X.en d).phase = 1 ∧ (X.en d).idle = i)
theorem Dl.wa {X Y:Pr} {f:Fl} {R E E':List Fl} {N:Nat} (h:Dl X Y f R E E' N) {d:Nat} {i:Int} (hw:WA d i X (f :: R) E):WA d i Y R E':=by
 rcases hw with hw | ⟨t,ht,hh⟩ | ⟨hp,hi⟩
 ·exact .inl (h.jn hw)
 ·exact .inr (.inl (h.hc_any ht hh))
 ·by_cases hd:d = f.dst.toNat
  ·subst hd
   cases h.st with
   | quiet hq _ _ _ _ hid _ => exact .inr (.inr ⟨by rw [hq]; exact hp,by rw [hid hp]; exact hi⟩)
   | meet _ _ _ _ _ _ _ _ hout hkn =>
    obtain ⟨g,hg,hc,_⟩:=emitted h.ri.inv h.way h.hd hout hkn
    exact .inr (.inl ⟨1 - f.dst.toNat,by omega,g,by rw [h.e']; exact hg,hc⟩)
   | anew h2 _ _ _ _ _ _ _ _ _ => omega
  ·have e:Y.en d = X.en d:=by unfold Pr.en; rw [h.hd.ne d hd]
   exact .inr (.inr ⟨by rw [e]; exact hp,by rw [e]; exact hi⟩)
theorem Tk2.wait {X Z Y:Pr} (h:Tk2 X Z Y) {d:Nat} (hd:d < 2) (hp:(X.en d).phase = 1) (hi:(X.en d).idle ≠ 2):(Y.en d).phase = 1 ∧ (Y.en d).idle = (X.en d).idle + 1:=by
 refine ⟨by rw [(h.t1.same d hd).phase,(h.t0.same d hd).phase]; exact hp,?_⟩
 have h0:d = 0 ∨ d = 1:=by omega
 rcases h0 with rfl | rfl
 ·rw [h.t1.ne 0 (by decide)]; exact h.t0.idle hp hi
 ·have e:=h.t0.ne 1 (by decide)
  rw [h.t1.idle (by rw [e]; exact hp) (by rw [e]; exact hi),e]
theorem Tk2.says {X Z Y:Pr} (h:Tk2 X Z Y) (hx:X.way.length < 1024) (hz:Z.way.length < 1024) {d:Nat} (hd:d < 2) (hp:(X.en d).phase = 1) (hi:(X.en d).idle = 2):Hc Y (1 - d) Y.way:=by
 have h0:d = 0 ∨ d = 1:=by omega
 rcases h0 with rfl | rfl
 ·exact h.t1.hc (by decide) (h.t0.hello hx hp hi)
 ·have e:=h.t0.ne 1 (by decide)
  exact h.t1.hello hz (by rw [e]; exact hp) (by rw [e]; exact hi)
theorem round_aw {X:Pr} {N m hh:Nat} (hr:RJ X N) (hN:N + 1026 < 4294967295) (hl:Live X) (hR:Rm X hh 112 128) (hroom:hh ≤ 700) (hw:Aw m X):(0 < m → Aw (m - 1) (roundX X)) ∧ (m = 0 → Gw 7 (roundX X)):=by
 have hg8:Gw 8 X → Gw 7 (roundX X):=fun hg => by
  rcases round_gw hr hN hl hg with h | ⟨_,h⟩
  ·exact .inl h
  ·exact h
 rcases hw with hw | ⟨d,hd,hp,hi⟩
 ·exact ⟨fun _ => .inl ((hg8 hw).mono (by decide)),fun _ => hg8 hw⟩
 obtain ⟨hr2,hT⟩:=hr.tk (by omega)
 obtain ⟨_,rz,_⟩:=hR.tk hT
 have hlx:=hR.len hr
 have hlz:=rz.len (hr.do (by omega) ⟨4,0,0,[]⟩)
 have hsp:=spn2 (tkX X)
 by_cases hid:(X.en d).idle = 2
 ·have hh:=hT.says (by omega) (by omega) hd hp hid
  obtain ⟨_,_,h3⟩:=round_ind (P:=W1 2 (1 - d)) hr hN hl (fun _ _ _ _ _ _ _ hD hp => hD.w1 (by omega) hp) (.inr (.inr ⟨hsp,.inl hh⟩))
  have fin:Gw 7 (roundX X):=by
   rcases h3 with h3 | ⟨h3,h4⟩ | ⟨h3,⟨_,h4,_⟩ | h4⟩
   ·exact .inl h3
   ·exact .inr ⟨1,2,by decide,by omega,h4⟩
   ·cases h4
   ·exact .inr ⟨2,1,by decide,h3,h4⟩
  exact ⟨fun _ => .inl (fin.mono (by decide)),fun _ => fin⟩
 ·obtain ⟨y1,y2⟩:=hT.wait hd hp hid
  have hmx:0 < m:=by
   obtain ⟨M,_,y⟩:=hr
   have:=(y.wn d hd).idle
   omega
  refine ⟨fun _ => ?_,fun h0 => by omega⟩
  obtain ⟨_,_,h3⟩:=round_ind (P:=WA d ((X.en d).idle + 1)) hr hN hl (fun _ _ _ _ _ _ _ hD hp => hD.wa hp) (.inr (.inr ⟨y1,y2⟩))
  rcases h3 with h3 | ⟨t,ht,h3⟩ | ⟨h3,h4⟩
  ·exact .inl (.inl h3)
  ·exact .inl (.inr ⟨2,2,by decide,spn2 _,t,ht,h3⟩)
  ·exact .inr ⟨d,hd,h3,by omega⟩
def rounds:Nat → Pr → Pr
 | 0,X => X
 | n + 1,X => rounds n (roundX X)
theorem rounds_add (a b:Nat):∀ X,rounds (a + b) X = rounds b (rounds a X):=by
 induction a with
 | zero => intro X; rw [Nat.zero_add]; rfl
 | succ a ih => intro X; rw [show a + 1 + b = (a + b) + 1 by omega]; exact ih _
def RK (k:Nat) (X:Pr):Prop:=Live X ∧ ∃ N,N + k * 1026 < 4294967295 ∧ RJ X N
theorem RK.ri {X:Pr} {k:Nat} (h:RK k X):∃ N,N < 4294967295 ∧ RI X N:=by
 obtain ⟨_,N,b,M,c,d⟩:=h
 exact ⟨M,by omega,d⟩
theorem RK.round {X:Pr} {k:Nat} (h:RK (k + 1) X):RK k (roundX X):=by
 obtain ⟨hl,N,hN,hr⟩:=h
 have hN':N + 1026 < 4294967295:=by omega
 obtain ⟨a,b,_⟩:=round_ind (P:=fun _ _ _ => True) hr hN' hl (fun _ _ _ _ _ _ _ _ _ => trivial) trivial
 exact ⟨b,N + 1026,by omega,a⟩
theorem RK.rounds {k:Nat} (n:Nat):∀ {X:Pr},RK (k + n) X → RK k (rounds n X):=by
 induction n with
 | zero => exact fun h => h
 | succ n ih => exact fun h => ih (RK.round h)
theorem RK.jn {X:Pr} {k:Nat} (h:RK (k + 1) X) (hj:Jn X):Jn (roundX X):=by
 obtain ⟨hl,N,hN,hr⟩:=h
 have hN':N + 1026 < 4294967295:=by omega
 exact round_jn hr hN' hl hj
theorem RK.gw {X:Pr} {k r:Nat} (h:RK (k + 1) X) (hg:Gw r X):Jn (roundX X) ∨ 0 < r ∧ Gw (r - 1) (roundX X):=by
 obtain ⟨hl,N,hN,hr⟩:=h
 have hN':N + 1026 < 4294967295:=by omega
 exact round_gw hr hN' hl hg
theorem RK.aw {X:Pr} {k m hh:Nat} (h:RK (k + 1) X) (hR:Rm X hh 112 128) (hroom:hh ≤ 700) (hw:Aw m X):(0 < m → Aw (m - 1) (roundX X)) ∧ (m = 0 → Gw 7 (roundX X)):=by
 obtain ⟨hl,N,hN,hr⟩:=h
 have hN':N + 1026 < 4294967295:=by omega
 exact round_aw hr hN' hl hR hroom hw
theorem RK.rm {X:Pr} {k hh d a:Nat} (h:RK (k + 1) X) (hR:Rm X hh d a):Rm (roundX X) (hh + 2) 112 (d + 16) ∧ (Jn X → Rm (roundX X) hh 112 (d + 16)):=by
 obtain ⟨hl,N,hN,hr⟩:=h
 have hN':N + 1026 < 4294967295:=by omega
 obtain ⟨_,_,c1,d1⟩:=round_rm hr hN' hl hR
 exact ⟨c1,d1⟩
theorem jn_rounds {k:Nat} (n:Nat):∀ {X:Pr},RK (k + n) X → Jn X → Jn (rounds n X):=by
 induction n with
 | zero => exact fun _ h => h
 | succ n ih => exact fun h hj => ih (RK.round h) (RK.jn h hj)
theorem gw_rounds {k:Nat} (r:Nat):∀ {X:Pr},RK (k + (r + 1)) X → Gw r X → Jn (rounds (r + 1) X):=by
 induction r with
 | zero =>
  intro X h hg
  rcases RK.gw h hg with h | ⟨h,_⟩
  ·exact h
  ·omega
 | succ r ih =>
  intro X h hg
  rcases RK.gw h hg with h1 | ⟨_,h1⟩
  ·exact jn_rounds (r + 1) (RK.round h) h1
  ·exact ih (RK.round h) h1
theorem rm_rounds {k:Nat} (n:Nat):∀ {X:Pr} {h:Nat},RK (k + n) X → Rm X h 112 128 → Rm (rounds n X) (h + 2 * n) 112 128 ∧ (Jn X → Rm (rounds n X) h 112 128):=by
 induction n with
 | zero => exact fun _ h => ⟨h,fun _ => h⟩
 | succ n ih =>
  intro X h hk hR
  obtain ⟨a,b⟩:=RK.rm hk hR
  have a':=(ih (RK.round hk) a).1
  refine ⟨⟨by have:=a'.h; show cnt 1 (rounds n (roundX X)).way ≤ _; omega,a'.d,a'.a⟩,fun hj => ?_⟩
  exact (ih (RK.round hk) (b hj)).2 (RK.jn hk hj)
theorem rm_two {X:Pr} {k h:Nat} (hk:RK (k + 2) X) (hh:cnt 1 X.way ≤ h):Rm (rounds 2 X) (h + 4) 112 128:=by
 obtain ⟨c1,_⟩:=RK.rm hk (Rm.mk hh (Nat.le_refl _) (Nat.le_refl _))
 obtain ⟨c2,_⟩:=RK.rm (RK.round hk) c1
 exact c2
theorem up13 {X:Pr} {k:Nat} (hk:RK (k + 13) X) (hh:cnt 1 X.way ≤ 402):Jn (rounds 13 X) ∧ Rm (rounds 13 X) 428 112 128:=by
 have q2:RK (k + 11) (rounds 2 X):=RK.rounds (k:=k + 11) 2 hk
 have m2:=rm_two (k:=k + 11) hk hh
 rw [show (13:Nat) = 2 + 11 from rfl,rounds_add]
 generalize rounds 2 X = X2 at q2 m2
 refine ⟨?_,(rm_rounds (k:=k) 11 q2 m2).1⟩
 have hr2:=q2.2.choose_spec.2
 have w2:=aw_any hr2 q2.1
 have w3:=(RK.aw q2 m2 (by decide) w2).1 (by decide)
 have m3:=(RK.rm q2 m2).1
 have q3:=RK.round q2
 have w4:=(RK.aw q3 m3 (by decide) w3).1 (by decide)
 have m4:=(RK.rm q3 m3).1
 have q4:=RK.round q3
 have w5:=(RK.aw q4 m4 (by decide) w4).2 rfl
 have q5:=RK.round q4
 have:=gw_rounds (k:=k) 7 q5 w5
 rw [show (11:Nat) = 3 + 8 from rfl,rounds_add]
 exact this
end Go.Proofs.Ytnkkgofpifhoeaa.Pr
end
section
namespace Go.Proofs.Ytnkkgofpifhoeaa.Pr
open Go.Proofs.Ytnkkgofpifhoeaa.Lk
def keyF (f:Fl):Key:=(f.boot,f.p.mine,f.p.boot,f.p.yours)
def loS (d:Sd):Nat:=(ofK 3 d.log (keyL d.end_)).length - d.end_.queue.length
def hiS (d:Sd):Nat:=(ofK 3 d.log (keyL d.end_)).length - uns d.end_
def eS (X:Pr) (s:Nat):Nat:=(ofK 4 (X.sd (1 - s)).log (mir (keyL (X.en s)))).length
structure LInv (X:Pr):Prop where
 ack:∀ f ∈ X.way,f.p.kind ≠ 1 → ∃ a,f.p.ack = sn a ∧ a ≤ (ofK 4 (X.sd (1 - f.dst.toNat)).log (keyF f)).length
 idx:∀ f ∈ X.way,f.p.kind = 2 → (X.en (1 - f.dst.toNat)).phase = 2 → keyL (X.en (1 - f.dst.toNat)) = keyF f → ∃ j,f.p.seq = sn j ∧ j < hiS (X.sd (1 - f.dst.toNat))
 lo:∀ s,s < 2 → (X.en s).phase = 2 → loS (X.sd s) ≤ eS X s
 hi:∀ s,s < 2 → (X.en s).phase = 2 → eS X s ≤ hiS (X.sd s)
theorem LInv.ways {X:Pr} (h:LInv X) {ws:List Fl} (hw:∀ f ∈ ws,f ∈ X.way):LInv { X with way:=ws } :=
 ⟨fun f hf => h.ack f (hw f hf),fun f hf => h.idx f (hw f hf),h.lo,h.hi⟩
theorem LInv.set_ {X:Pr} (h:LInv X) (hdst:∀ f ∈ X.way,f.dst = 0 ∨ f.dst = 1) {s:Nat} (hs:s < 2) {d:Sd} (h4:∀ K,(ofK 4 (X.sd s).log K).length ≤ (ofK 4 d.log K).length)
  (hg:(X.en (1 - s)).phase = 2 → (ofK 4 d.log (mir (keyL (X.en (1 - s))))).length ≤ hiS (X.sd (1 - s)))
  (hown:d.end_.phase = 2 → loS d ≤ (ofK 4 (X.sd (1 - s)).log (mir (keyL d.end_))).length ∧ (ofK 4 (X.sd (1 - s)).log (mir (keyL d.end_))).length ≤ hiS d ∧ ∀ f ∈ X.way,f.dst = ((1 - s:Nat):Int) → f.p.kind = 2 → keyL d.end_ = keyF f → ∃ j,f.p.seq = sn j ∧ j < hiS d):LInv (X.set s d):=by
 have hoo:1 - (1 - s) = s:=by omega
 refine ⟨fun f hf hk => ?_,fun f hf hk hp hkey => ?_,fun t ht hp => ?_,fun t ht hp => ?_⟩
 ·obtain ⟨a,ha,hle⟩:=h.ack f hf hk
  refine ⟨a,ha,?_⟩
  by_cases hts:1 - f.dst.toNat = s
  ·rw [hts] at hle ⊢
   rw [Pr.set_eq]
   exact Nat.le_trans hle (h4 _)
  ·rw [Pr.set_ne X hts]; exact hle
 ·by_cases hts:1 - f.dst.toNat = s
  ·rw [hts] at hp hkey ⊢
   rw [set_en] at hp hkey
   rw [Pr.set_eq]
   refine (hown hp).2.2 f hf ?_ hk hkey
   rcases hdst f hf with hd | hd <;> rw [hd] at hts ⊢ <;> simp at hts <;> subst hts <;> rfl
  ·rw [set_en' hts] at hp hkey
   rw [Pr.set_ne X hts]
   exact h.idx f hf hk hp hkey
 ·by_cases hts:t = s
  ·subst hts
   rw [set_en] at hp
   unfold eS
   rw [Pr.set_eq,set_en,Pr.set_ne X (show 1 - t ≠ t by omega)]
   exact (hown hp).1
  ·rw [set_en' hts] at hp
   have:=h.lo t ht hp
   have e:1 - t = s:=by omega
   unfold eS at this ⊢
   rw [Pr.set_ne X hts,set_en' hts]
   rw [e] at this ⊢
   rw [Pr.set_eq]
   exact Nat.le_trans this (h4 _)
 ·by_cases hts:t = s
  ·subst hts
   rw [set_en] at hp
   unfold eS
   rw [Pr.set_eq,set_en,Pr.set_ne X (show 1 - t ≠ t by omega)]
   exact (hown hp).2.1
  ·rw [set_en' hts] at hp
   have e:1 - t = s:=by omega
   have e':t = 1 - s:=by omega
   unfold eS
   rw [Pr.set_ne X hts,set_en' hts,e,Pr.set_eq]
   subst e'
   exact hg hp
theorem LInv.hg0 {X:Pr} (h:LInv X) {s:Nat} (hs:s < 2) {l:List Ent} (h4:∀ K,ofK 4 l K = ofK 4 (X.sd s).log K) (hp:(X.en (1 - s)).phase = 2):(ofK 4 l (mir (keyL (X.en (1 - s))))).length ≤ hiS (X.sd (1 - s)):=by
 have:=h.hi (1 - s) (by omega) hp
 unfold eS at this
 rw [show 1 - (1 - s) = s by omega] at this
 rw [h4]; exact this
theorem LInv.gone {X:Pr} (h:LInv X) (hdst:∀ f ∈ X.way,f.dst = 0 ∨ f.dst = 1) {s:Nat} (hs:s < 2) {d:Sd} (h4:∀ K,ofK 4 d.log K = ofK 4 (X.sd s).log K) (hp:d.end_.phase ≠ 2):LInv (X.set s d) :=
 h.set_ hdst hs (fun K => by rw [h4]; exact Nat.le_refl _) (h.hg0 hs h4) (fun h2 => absurd h2 hp)
theorem LInv.stays {X:Pr} (h:LInv X) (hdst:∀ f ∈ X.way,f.dst = 0 ∨ f.dst = 1) {s:Nat} (hs:s < 2) {d:Sd} (h4:∀ K,(ofK 4 (X.sd s).log K).length ≤ (ofK 4 d.log K).length)
  (hg:(X.en (1 - s)).phase = 2 → (ofK 4 d.log (mir (keyL (X.en (1 - s))))).length ≤ hiS (X.sd (1 - s))) (hp:d.end_.phase = 2 → (X.en s).phase = 2) (hk:keyL d.end_ = keyL (X.en s)) (hlo:(X.en s).phase = 2 → loS d ≤ eS X s) (hhi:hiS (X.sd s) ≤ hiS d):LInv (X.set s d):=by
 have hoo:1 - (1 - s) = s:=by omega
 refine h.set_ hdst hs h4 hg (fun h2 => ?_)
 have hp2:=hp h2
 rw [hk]
 refine ⟨hlo hp2,Nat.le_trans (h.hi s hs hp2) hhi,fun f hf hd hk2 hkey => ?_⟩
 have e:1 - f.dst.toNat = s:=by rw [hd]; omega
 have:=h.idx f hf hk2
 rw [e] at this
 obtain ⟨j,hj,hl⟩:=this hp2 hkey
 exact ⟨j,hj,Nat.lt_of_lt_of_le hl hhi⟩
def SaysW (L:Lk):Prop:=∀ p ∈ L.out,p.kind = 2 → ∃ i:Nat,i < min 8 L.queue.length ∧ p = dataP L (i:Int)
theorem saysw_nil {L:Lk} (h:L.out = []):SaysW L:=fun p hp => by rw [h] at hp; cases hp
theorem saysw_hello {L M:Lk} (h:L.out = [helloP M]):SaysW L:=fun p hp hk => by
 rw [h,List.mem_singleton] at hp
 rw [hp] at hk
 exact absurd (show (1:Int) = 2 from hk) (by decide)
theorem saysw_map {L:Lk} {l:List Nat} {q:List Pkt} (h:L.out = l.map (fun i:Nat => dataP L (i:Int)) ++ q) (hl:∀ i ∈ l,i < min 8 L.queue.length) (hq:∀ p ∈ q,p.kind ≠ 2):SaysW L:=fun p hp hk => by
 rw [h] at hp
 rcases List.mem_append.1 hp with hp | hp
 ·obtain ⟨i,hi,rfl⟩:=List.mem_map.1 hp
  exact ⟨i,hl i hi,rfl⟩
 ·exact absurd hk (hq p hp)
theorem saysw_tick {L:Lk} (hok:L.Ok) (hw:Wn L) (ho:L.out = []) (hq:L.phase ≠ 2 → L.queue = []):SaysW (tick_ L):=by
 have hS:=(tick_turn hok ho hq).1
 rcases tick_out hok hw ho with ⟨h,_⟩ | ⟨_,_,h⟩ | ⟨_,_,_,h⟩
 ·exact saysw_nil h
 ·exact saysw_hello h
 ·refine saysw_map (l:=List.range (min 8 L.queue.length)) (q:=[]) (by rw [h,List.append_nil]) (fun i hi => by rw [hS.queue]; exact List.mem_range.1 hi) (fun p hp => by cases hp)
theorem saysw_send {L:Lk} (hw:Wn L) (ho:L.out = []) (body:List Int):SaysW (sendL L body):=by
 unfold sendL
 split
 ·obtain ⟨a,b,c⟩:=fill_eq (L:={ L with queue:=L.queue ++ [body] }) (k:=min 8 L.queue.length) hw.full (by show _ ≤ min 8 (L.queue ++ [body]).length; rw [List.length_append]; omega) ho
  have hS:=fill_same { L with queue:=L.queue ++ [body] }
  refine saysw_map (q:=[]) (by rw [List.append_nil,b]; exact List.map_congr_left (fun i _ => (data_same hS _).symm)) (fun i hi => ?_) (fun p hp => by cases hp)
  rw [List.mem_range'] at hi
  obtain ⟨j,hj,rfl⟩:=hi
  rw [hS.queue]; omega
 ·exact saysw_nil ho
theorem saysw_open {L:Lk} (ho:L.out = []):SaysW (openL L):=by
 unfold openL
 split
 ·exact saysw_hello (M:=begin_ L) (by rw [emit_out (by show L.out.length < 1024; rw [ho]; decide)]; show L.out ++ _ = _; rw [ho]; rfl)
 ·exact saysw_nil ho
theorem saysw_take {L L':Lk} {b:Int} {p:Pkt} {t:Tk} (hc:TakeC L b p L' t) (hw:Wn L) (ho:L.out = []):SaysW L':=by
 have hlen:L.out.length < 1024:=by rw [ho]; decide
 cases hc with
 | none _ => exact saysw_nil ho
 | up h1 hk ha hm hss hy => exact saysw_hello (M:={ peerL L b p with phase:=2 }) (by rw [hy,emit_out (L:={ peerL L b p with phase:=2 }) hlen]; show L.out ++ _ = _; rw [ho]; rfl)
 | learn h1 hk ha hm hss hy => exact saysw_hello (M:=peerL L b p) (by rw [hy,emit_out (L:=peerL L b p) hlen]; show L.out ++ _ = _; rw [ho]; rfl)
 | again h2 hk ha h0 hss hy => exact saysw_hello (M:=L) (by rw [hy,emit_out hlen,ho]; rfl)
 | last h2 hk ha ht => exact saysw_nil ho
 | anew h2 hk ha ht hss hy => exact saysw_hello (M:=peerL (begin_ L) b p) (by rw [hy,emit_out (L:=peerL (begin_ L) b p) hlen]; show L.out ++ _ = _; rw [ho]; rfl)
 | signal h2 hk ha hm k hkk hx hy =>
  subst hy
  obtain ⟨_,l,hl,_,hli,_⟩:=up_out hw ho p hkk hx
  refine saysw_map hl (fun i hi => ?_) (fun q hq => ?_)
  ·rw [hli,List.mem_range'] at hi
   obtain ⟨j,hj,rfl⟩:=hi
   rw [hx.queue]; show _ < min 8 (L.queue.drop k).length; rw [List.length_drop]; omega
  ·split at hq
   ·rw [List.mem_singleton.1 hq]; show (3:Int) ≠ 2; decide
   ·cases hq
theorem lo_hi {d:Sd} {N:Nat} (h:SideI d N) (h2:d.end_.phase = 2):d.end_.queue.length ≤ (ofK 3 d.log (keyL d.end_)).length ∧ d.end_.base = sn (loS d):=by
 obtain ⟨m,hm,hq,hb⟩:=h.sent h2
 have hl:d.end_.queue.length = (ofK 3 d.log (keyL d.end_)).length - m:=by rw [hq,List.length_drop]
 refine ⟨by omega,?_⟩
 rw [hb]
 congr 1
 unfold loS; omega
theorem key_eq {a b c d a' b' c' d':Int} (h:((a,b,c,d):Key) = (a',b',c',d')):a = a' ∧ b = b' ∧ c = c' ∧ d = d':=by
 injection h with h1 h
 injection h with h2 h
 injection h with h3 h4
 exact ⟨h1,h2,h3,h4⟩
theorem take_linv {X:Pr} {N:Nat} (hr:RI X N) (h:LInv X) (hN:N < 4294967295) {f:Fl} (hfm:f ∈ X.way):LInv (X.set f.dst.toNat (takeS (X.sd f.dst.toNat) (takeF (X.sd f.dst.toNat).end_ f.boot f.p))):=by
 have hI:=hr.inv
 have hf:=hI.p.fl f hfm
 have hdst:∀ g ∈ X.way,g.dst = 0 ∨ g.dst = 1:=fun g hg => (hI.p.fl g hg).dst
 have hs:f.dst.toNat < 2:=by have:=hf.dst; omega
 have hack:=h.ack f hfm
 have hidx:=h.idx f hfm
 have hdat:∀ g ∈ X.way,g.p.kind = 2 → ∃ j:Nat,(ofK 3 (X.sd (1 - g.dst.toNat)).log (keyF g))[j]? = some g.p.body ∧ g.p.seq = sn j:=fun g hg => (hI.p.fl g hg).data
 generalize hst:f.dst.toNat = s at *
 have hd:=hI.p.side s hs
 have hpr:=hI.p.pref s hs
 have hpo:=hI.p.pref (1 - s) (by omega)
 rw [show 1 - (1 - s) = s by omega] at hpo
 have ho:=hI.out s hs
 have hoth:=hI.p.side (1 - s) (by omega)
 have hgc:=good_cases hf.good
 obtain ⟨hc,hsay⟩:=take_turn hd.fine.ok ho f.boot f.p
 generalize hL:(takeF (X.sd s).end_ f.boot f.p).1 = L' at *
 generalize hT:(takeF (X.sd s).end_ f.boot f.p).2 = t at *
 have hx:takeF (X.sd s).end_ f.boot f.p = (L',t):=by rw [← hL,← hT]
 rw [hx]
 have hlow:=h.lo s hs
 have hhig:=h.hi s hs
 cases hc with
 | @none hd0 _ =>
  have e1:takeS (X.sd s) ((X.sd s).end_,⟨hd0,false,false,[]⟩) = X.sd s:=by unfold takeS; rfl
  rw [e1,set_self]; exact h
 | up h1 hk ha hm hss hy =>
  have e1:takeS (X.sd s) (L',⟨true,true,false,[]⟩) = noteF (upS (endF (X.sd s) L')) 1 []:=by unfold takeS; rfl
  rw [e1]
  have h4:∀ K,ofK 4 (noteF (upS (endF (X.sd s) L')) 1 []).log K = ofK 4 (X.sd s).log K:=fun K => ofK_no (show (1:Int) ≠ 4 by decide)
  have hkey:keyL L' = ((X.sd s).end_.own,(X.sd s).end_.token,f.boot,f.p.mine):=by unfold keyL; rw [hss.own,hss.token,hss.boot,hss.yours]; rfl
  have hemp:ofK 3 (X.sd s).log (keyL L') = []:=ofK_nil (fun e he hk3 hx => by
   have hx2:((e.boot,e.mine,e.peer,e.yours):Key) = ((X.sd s).end_.own,(X.sd s).end_.token,f.boot,f.p.mine):=by rw [← hkey]; exact hx
   obtain ⟨x1,x2,_,_⟩:=key_eq hx2
   rcases hd.fresh e he (.inl hk3) with hy | hy
   ·omega
   ·have:=hy.2.2 h1; omega)
  have hemp':ofK 3 (noteF (upS (endF (X.sd s) L')) 1 []).log (keyL L') = []:=(ofK_no (show (1:Int) ≠ 3 by decide)).trans hemp
  have hlen0:(ofK 4 (X.sd (1 - s)).log (mir (keyL L'))).length = 0:=by
   have hp:=hpo (mir (keyL L'))
   rw [show mir (mir (keyL L')) = keyL L' from rfl,hemp] at hp
   exact Nat.le_zero.1 hp.length_le
  refine h.set_ hdst hs (fun K => by rw [h4]; exact Nat.le_refl _) (h.hg0 hs h4) (fun _ => ⟨?_,?_,fun g hg hgd hgk hgkey => ?_⟩)
  ·unfold loS
   show (ofK 3 (noteF (upS (endF (X.sd s) L')) 1 []).log (keyL L')).length - _ ≤ _
   rw [hemp',List.length_nil,Nat.zero_sub]; exact Nat.zero_le _
  ·show (ofK 4 (X.sd (1 - s)).log (mir (keyL L'))).length ≤ _
   rw [hlen0]; exact Nat.zero_le _
  ·exfalso
   obtain ⟨j,hj,_⟩:=hdat g hg hgk
   rw [show 1 - g.dst.toNat = s by rw [hgd]; omega,← hgkey] at hj
   have hj':(ofK 3 (X.sd s).log (keyL L'))[j]? = some g.p.body:=hj
   rw [hemp] at hj'
   cases hj'
 | learn h1 hk ha hm hss hy =>
  have e1:takeS (X.sd s) (L',⟨true,false,false,[]⟩) = endF (X.sd s) L':=by unfold takeS; rfl
  rw [e1]
  exact h.gone hdst hs (fun K => rfl) (by have:L'.phase = (X.sd s).end_.phase:=hss.phase; show ¬ L'.phase = 2; omega)
 | again h2 hk ha h0 hss hy =>
  have e1:takeS (X.sd s) (L',⟨true,false,false,[]⟩) = endF (X.sd s) L':=by unfold takeS; rfl
  rw [e1]
  have hke:keyL L' = keyL (X.en s):=keyL_same hss
  refine h.stays hdst hs (fun K => Nat.le_refl _) (h.hg0 hs (fun K => rfl)) (fun _ => h2) hke (fun _ => ?_) ?_
  ·have:=hlow h2
   unfold loS at this ⊢
   show (ofK 3 (X.sd s).log (keyL L')).length - L'.queue.length ≤ _
   rw [hke,hss.queue]; exact this
  ·unfold hiS uns
   show _ ≤ (ofK 3 (X.sd s).log (keyL L')).length - (L'.queue.length - 8)
   rw [hke,hss.queue]; exact Nat.le_refl _
 | last h2 hk ha ht =>
  have e1:takeS (X.sd s) (shut_ (X.sd s).end_,⟨true,false,true,[]⟩) = noteF (endF (X.sd s) (shut_ (X.sd s).end_)) 2 []:=by unfold takeS; rfl
  rw [e1]
  exact h.gone hdst hs (fun K => ofK_no (show (2:Int) ≠ 4 by decide)) (show (0:Int) ≠ 2 by decide)
 | anew h2 hk ha ht hss hy =>
  have e1:takeS (X.sd s) (L',⟨true,false,true,[]⟩) = noteF (endF (X.sd s) L') 2 []:=by unfold takeS; rfl
  rw [e1]
  exact h.gone hdst hs (fun K => ofK_no (show (2:Int) ≠ 4 by decide)) (by have:L'.phase = 1:=hss.phase; show ¬ L'.phase = 2; omega)
 | signal h2 hk ha hm k hkk hxx hy =>
  have haz:=age_zero ha
  have hmz:=meant_iff hm
  have hke:keyL L' = keyL (X.en s):=(keyL_same hxx).trans rfl
  have hkf:mir (keyL (X.en s)) = keyF f:=by unfold keyF mir keyL Pr.en; rw [haz.1,haz.2,hmz.1,hmz.2]
  have hsn:=hd.fine.ok.sent
  have hqL:L'.queue = (X.sd s).end_.queue.drop k:=hxx.queue
  obtain ⟨hql,hbase⟩:=lo_hi hd h2
  have hlo1:=hlow h2
  have hhi1:=hhig h2
  have hbig:(ofK 3 (X.sd s).log (keyL (X.sd s).end_)).length ≤ N:=Nat.le_trans (ofK_len _ _ _) hd.len
  have hbig4:=Nat.le_trans (ofK_len 4 (X.sd (1 - s)).log (keyF f)) hoth.len
  have hkq:k ≤ (X.sd s).end_.queue.length:=by omega
  have hlen3:∀ l:List Ent,ofK 3 l (keyL (X.en s)) = ofK 3 (X.sd s).log (keyL (X.en s)) → ∀ d:Sd,d.log = l → d.end_ = L' → loS d ≤ eS X s ∧ hiS (X.sd s) ≤ hiS d:=fun l hl d hdl hde => by
   have elo:loS d = (ofK 3 (X.sd s).log (keyL (X.sd s).end_)).length - ((X.sd s).end_.queue.length - k):=by
    unfold loS; rw [hdl,hde,hke,hl,hqL,List.length_drop]
   have ehi:hiS d = (ofK 3 (X.sd s).log (keyL (X.sd s).end_)).length - ((X.sd s).end_.queue.length - k - 8):=by
    unfold hiS uns; rw [hdl,hde,hke,hl,hqL,List.length_drop]
   have ehi0:hiS (X.sd s) = (ofK 3 (X.sd s).log (keyL (X.sd s).end_)).length - ((X.sd s).end_.queue.length - 8):=rfl
   have elo0:loS (X.sd s) = (ofK 3 (X.sd s).log (keyL (X.sd s).end_)).length - (X.sd s).end_.queue.length:=rfl
   refine ⟨?_,by omega⟩
   rcases hkk with hk0 | ⟨hk1,hk2,hk3⟩
   ·subst hk0; omega
   ·obtain ⟨a,ha1,ha2⟩:=hack hk
    have hes:eS X s = (ofK 4 (X.sd (1 - s)).log (keyF f)).length:=by unfold eS; rw [hkf]
    unfold ackK at hk3
    rw [ha1,hbase] at hk3
    have hk8:k ≤ 8:=by omega
    unfold sn at hk3
    simp only [wrapU] at hk3
    omega
  by_cases hg:f.p.kind = 2 ∧ f.p.seq = (X.sd s).end_.expected
  ·have hb:upB (X.sd s).end_ f.p = f.p.body:=by unfold upB; rw [if_pos hg]
   have e1:takeS (X.sd s) (L',⟨true,false,false,upB (X.sd s).end_ f.p⟩) = noteF (endF (X.sd s) L') 4 f.p.body:=by
    unfold takeS
    rw [if_neg (show ¬ false = true by decide),if_neg (show ¬ false = true by decide),hb,if_pos (hgc.2 hg.1)]
   rw [e1]
   have hek:keyE (entF (endF (X.sd s) L') 4 f.p.body) = keyL (X.sd s).end_:=entF_key2 hd h2 4 _
   have h3:=hlen3 ((X.sd s).log ++ [entF (endF (X.sd s) L') 4 f.p.body]) (ofK_no (show (4:Int) ≠ 3 by decide)) (noteF (endF (X.sd s) L') 4 f.p.body) rfl rfl
   refine h.stays hdst hs (fun K => ?_) (fun hp => ?_) (fun _ => h2) hke (fun _ => h3.1) h3.2
   ·show _ ≤ (ofK 4 ((X.sd s).log ++ [_]) K).length
    rw [ofK_append,List.length_append]; omega
   ·show (ofK 4 ((X.sd s).log ++ [entF (endF (X.sd s) L') 4 f.p.body]) (mir (keyL (X.en (1 - s))))).length ≤ _
    have h0:=h.hi (1 - s) (by omega) hp
    unfold eS at h0
    rw [show 1 - (1 - s) = s by omega] at h0
    by_cases hK:keyE (entF (endF (X.sd s) L') 4 f.p.body) = mir (keyL (X.en (1 - s)))
    ·rw [ofK_yes (show (entF (endF (X.sd s) L') 4 f.p.body).kind = 4 from rfl) hK,List.length_append]
     have hkk':keyL (X.en (1 - s)) = keyF f:=by
      have:mir (mir (keyL (X.en (1 - s)))) = mir (keyL (X.en s)):=by rw [← hK,hek]
      rw [hkf] at this; exact this
     obtain ⟨j,hj1,hj2⟩:=hidx hg.1 hp hkk'
     have hexp:=hd.got h2
     rw [← hg.2,hj1] at hexp
     have hkx:keyL (X.sd s).end_ = mir (keyL (X.en (1 - s))):=hek.symm.trans hK
     have l1:(ofK 4 (X.sd s).log (keyL (X.sd s).end_)).length ≤ N:=Nat.le_trans (ofK_len _ _ _) hd.len
     have l2:hiS (X.sd (1 - s)) ≤ N:=by unfold hiS; exact Nat.le_trans (Nat.sub_le _ _) (Nat.le_trans (ofK_len _ _ _) hoth.len)
     have:=sn_inj (by omega) (by omega) hexp
     rw [← hkx]
     simp only [List.length_singleton]
     omega
    ·rw [ofK_ne hK]; exact h0
  ·have hb:upB (X.sd s).end_ f.p = []:=by unfold upB; rw [if_neg hg]
   have e1:takeS (X.sd s) (L',⟨true,false,false,upB (X.sd s).end_ f.p⟩) = endF (X.sd s) L':=by
    unfold takeS
    rw [if_neg (show ¬ false = true by decide),if_neg (show ¬ false = true by decide),hb,if_neg (by simp)]
   rw [e1]
   have h3:=hlen3 (X.sd s).log rfl (endF (X.sd s) L') rfl rfl
   exact h.stays hdst hs (fun K => Nat.le_refl _) (h.hg0 hs (fun K => rfl)) (fun _ => h2) hke (fun _ => h3.1) h3.2
theorem act_linv {X:Pr} {N:Nat} (hr:RI X N) (h:LInv X) (hN:N < 4294967295) {a:Act} (hb:badA X a = 0):LInv (actX X a) ∧ ∀ s,s < 2 → SaysW ((actX X a).en s):=by
 have hI:=hr.inv
 obtain ⟨hk,hsd,hi⟩:=badA_side hb
 have hdst:∀ g ∈ X.way,g.dst = 0 ∨ g.dst = 1:=fun g hg => (hI.p.fl g hg).dst
 have hside:a.kind < 6 → a.side.toNat < 2:=fun h => by have:=hsd h; omega
 have hnil:∀ t,t < 2 → SaysW (X.en t):=fun t ht => saysw_nil (hI.out t ht)
 have hw:∀ {s:Nat} {d:Sd},SaysW d.end_ → ∀ t,t < 2 → SaysW ((X.set s d).en t):=fun {s d} hsw t ht => by
  by_cases hts:t = s
  ·subst hts; rw [set_en]; exact hsw
  ·rw [set_en' hts]; exact hnil t ht
 unfold actX
 split
 ·rename_i h1
  have hs:=hside (by omega)
  generalize a.side.toNat = s at *
  have ho:=hI.out s hs
  refine ⟨?_,hw (saysw_open ho)⟩
  by_cases hE:openE (X.sd s).end_ = 0
  ·obtain ⟨h0,ht,hss,_⟩:=open_turn ho hE
   exact h.gone hdst hs (fun K => rfl) (by have:(openL (X.sd s).end_).phase = 1:=hss.phase; show ¬ (openL (X.sd s).end_).phase = 2; omega)
  ·rw [open_no hE,endF_self,set_self]; exact h
 split
 ·rename_i h1
  have hs:=hside (by omega)
  generalize a.side.toNat = s at *
  have he:(shutS (X.sd s)).end_ = shut_ (X.sd s).end_:=by unfold shutS; split <;> rfl
  refine ⟨h.gone hdst hs (fun K => ?_) (by rw [he]; show (0:Int) ≠ 2; decide),hw (by rw [he]; exact saysw_nil (hI.out s hs))⟩
  unfold shutS
  split
  ·exact ofK_no (show (2:Int) ≠ 4 by decide)
  ·rfl
 split
 ·rename_i h1
  have hs:=hside (by omega)
  generalize a.side.toNat = s at *
  have hd:=hI.p.side s hs
  have he:(sendS (X.sd s) a.body).end_ = sendL (X.sd s).end_ a.body:=by unfold sendS; split <;> rfl
  refine ⟨?_,hw (by rw [he]; exact saysw_send (hr.wn s hs) (hI.out s hs) _)⟩
  unfold sendS
  by_cases hE:sendE (X.sd s).end_ a.body.length = 0
  ·rw [if_pos hE]
   obtain ⟨h2,_,hbl,_,hss,_⟩:=send_turn hd.fine.ok (hI.out s hs) a.body hE
   have h4:∀ K,ofK 4 (noteF (endF (X.sd s) (sendL (X.sd s).end_ a.body)) 3 a.body).log K = ofK 4 (X.sd s).log K:=fun K => ofK_no (show (3:Int) ≠ 4 by decide)
   have hke:keyL (sendL (X.sd s).end_ a.body) = keyL (X.en s):=(keyL_same hss).trans rfl
   have hek:keyE (entF (endF (X.sd s) (sendL (X.sd s).end_ a.body)) 3 a.body) = keyL (X.en s):=entF_key2 hd h2 3 _
   have e3:(ofK 3 (noteF (endF (X.sd s) (sendL (X.sd s).end_ a.body)) 3 a.body).log (keyL (sendL (X.sd s).end_ a.body))).length = (ofK 3 (X.sd s).log (keyL (X.sd s).end_)).length + 1:=by
    rw [hke]
    show (ofK 3 ((X.sd s).log ++ [_]) (keyL (X.en s))).length = _
    rw [ofK_yes (show (entF (endF (X.sd s) (sendL (X.sd s).end_ a.body)) 3 a.body).kind = 3 from rfl) hek,List.length_append]; rfl
   have eq:(sendL (X.sd s).end_ a.body).queue.length = (X.sd s).end_.queue.length + 1:=by rw [hss.queue]; show ((X.sd s).end_.queue ++ [a.body]).length = _; rw [List.length_append]; rfl
   have hlo:=h.lo s hs h2
   obtain ⟨hql,_⟩:=lo_hi hd h2
   refine h.stays hdst hs (fun K => by rw [h4]; exact Nat.le_refl _) (h.hg0 hs h4) (fun _ => h2) hke (fun _ => ?_) ?_
   ·unfold loS at hlo ⊢
    show (ofK 3 (noteF (endF (X.sd s) (sendL (X.sd s).end_ a.body)) 3 a.body).log (keyL (sendL (X.sd s).end_ a.body))).length - (sendL (X.sd s).end_ a.body).queue.length ≤ _
    rw [e3,eq]; omega
   ·unfold hiS uns
    show _ ≤ (ofK 3 (noteF (endF (X.sd s) (sendL (X.sd s).end_ a.body)) 3 a.body).log (keyL (sendL (X.sd s).end_ a.body))).length - ((sendL (X.sd s).end_ a.body).queue.length - 8)
    rw [e3,eq]; omega
  ·rw [if_neg hE,send_no hE,endF_self,set_self]; exact h
 split
 ·rename_i h1
  have hs:=hside (by omega)
  generalize a.side.toNat = s at *
  have hd:=hI.p.side s hs
  obtain ⟨hss,_⟩:=tick_turn hd.fine.ok (hI.out s hs) hd.fine.idleq
  have hke:keyL (tick_ (X.sd s).end_) = keyL (X.en s):=keyL_same hss
  refine ⟨h.stays hdst hs (fun K => Nat.le_refl _) (h.hg0 hs (fun K => rfl)) (fun h2 => by rw [← hss.phase]; exact h2) hke (fun h2 => ?_) ?_,hw (saysw_tick hd.fine.ok (hr.wn s hs) (hI.out s hs) hd.fine.idleq)⟩
  ·have:=h.lo s hs h2
   unfold loS at this ⊢
   show (ofK 3 (X.sd s).log (keyL (tick_ (X.sd s).end_))).length - (tick_ (X.sd s).end_).queue.length ≤ _
   rw [hke,hss.queue]; exact this
  ·unfold hiS uns
   show _ ≤ (ofK 3 (X.sd s).log (keyL (tick_ (X.sd s).end_))).length - ((tick_ (X.sd s).end_).queue.length - 8)
   rw [hke,hss.queue]; exact Nat.le_refl _
 split
 ·rename_i h1
  have hs:=hside (by omega)
  generalize a.side.toNat = s at *
  by_cases hm:(X.sd s).boot = 4294967295
  ·have e1:rebootS (X.sd s) = X.sd s:=if_pos hm
   rw [e1,set_self]; exact ⟨h,hnil⟩
  ·have e1:rebootS (X.sd s) = { X.sd s with boot:=(X.sd s).boot + 1,end_:=newL ((X.sd s).boot + 1),log:=(X.sd s).log ++ [⟨5,(X.sd s).boot + 1,0,0,0,[]⟩] }:=if_neg hm
   rw [e1]
   exact ⟨h.gone hdst hs (fun K => ofK_no (show (5:Int) ≠ 4 by decide)) (show (0:Int) ≠ 2 by decide),hw (saysw_nil rfl)⟩
 split
 ·rename_i h6
  obtain ⟨hi0,hil⟩:=hi (by omega)
  have hmem:X.way.getD a.i.toNat nilF ∈ X.way:=by
   rw [List.getD_eq_getElem?_getD,List.getElem?_eq_getElem hil]
   exact List.getElem_mem hil
  unfold deliverX
  generalize X.way.getD a.i.toNat nilF = f at *
  have hs:f.dst.toNat < 2:=by have:=hdst f hmem; omega
  have h1:=take_linv hr h hN hmem
  refine ⟨h1.ways (ws:=X.way.eraseIdx a.i.toNat) (fun g hg => eraseIdx_mem hg),?_⟩
  have:=hw (s:=f.dst.toNat) (d:=takeS (X.sd f.dst.toNat) (takeF (X.sd f.dst.toNat).end_ f.boot f.p)) (by rw [takeS_end]; exact saysw_take (take_turn (hI.p.side _ hs).fine.ok (hI.out _ hs) f.boot f.p).1 (hr.wn _ hs) (hI.out _ hs))
  exact this
 split
 ·exact ⟨h.ways (fun g hg => eraseIdx_mem hg),hnil⟩
 ·obtain ⟨hi0,hil⟩:=hi (by omega)
  have hmem:X.way.getD a.i.toNat nilF ∈ X.way:=by
   rw [List.getD_eq_getElem?_getD,List.getElem?_eq_getElem hil]
   exact List.getElem_mem hil
  have hen:∀ t,(putX X (X.way.getD a.i.toNat nilF)).en t = X.en t:=fun t => by unfold Pr.en; rw [putX_sd]
  refine ⟨?_,fun t ht => by rw [hen]; exact hnil t ht⟩
  unfold putX
  split
  ·refine h.ways (fun g hg => ?_)
   rcases List.mem_append.1 hg with hg | hg
   ·exact hg
   ·rw [List.mem_singleton.1 hg]; exact hmem
  ·exact h
theorem pump_linv {X:Pr} {N:Nat} (hI:PInv X N) (h:LInv X) {s:Nat} (hs:s < 2) (hw:SaysW (X.en s)):LInv (pumpX X s):=by
 have hd:=hI.side s hs
 rw [pump_go hI.way]
 have hdst:∀ g ∈ X.way,g.dst = 0 ∨ g.dst = 1:=fun g hg => (hI.fl g hg).dst
 have h1:LInv (X.set s (endF (X.sd s) (outL (X.sd s).end_))) :=
  h.stays hdst hs (fun K => Nat.le_refl _) (h.hg0 hs (fun K => rfl)) (fun h2 => h2) rfl (fun h2 => h.lo s hs h2) (Nat.le_refl _)
 have hoo:1 - (1 - (s:Int)).toNat = s:=by omega
 have key:LInv (({ X with way:=X.way ++ (X.sd s).end_.out.map (fun p => (⟨1 - (s:Int),(X.sd s).boot,p⟩:Fl)) }:Pr).set s (endF (X.sd s) (outL (X.sd s).end_))):=by
  refine ⟨fun f hf hk => ?_,fun f hf hk hp hkey => ?_,h1.lo,h1.hi⟩
  ·rcases List.mem_append.1 hf with hf | hf
   ·exact h1.ack f hf hk
   ·obtain ⟨p,hp,rfl⟩:=List.mem_map.1 hf
    rw [show (⟨1 - (s:Int),(X.sd s).boot,p⟩:Fl).dst.toNat = (1 - (s:Int)).toNat from rfl,hoo,Pr.set_eq]
    have hk':p.kind ≠ 1:=hk
    have hfin:(X.en s).phase = 2 → p.ack = (X.en s).expected → p.mine = (X.en s).token → p.boot = (X.en s).boot → p.yours = (X.en s).yours → ∃ a,p.ack = sn a ∧ a ≤ (ofK 4 (X.sd s).log (keyF ⟨1 - (s:Int),(X.sd s).boot,p⟩)).length:=fun h2 ha x1 x2 x3 => by
     refine ⟨_,ha.trans (hd.got h2),?_⟩
     unfold keyF keyL
     show _ ≤ (ofK 4 (X.sd s).log ((X.sd s).boot,p.mine,p.boot,p.yours)).length
     rw [x1,x2,x3,hd.boot]; exact Nat.le_refl _
    rcases hI.says s hs p hp with hx | ⟨h2,i,_,hx⟩ | ⟨h2,hx⟩
    ·exact absurd (show p.kind = 1 by rw [hx.1]; rfl) hk'
    ·exact hfin h2 (by rw [hx]; rfl) (by rw [hx]; rfl) (by rw [hx]; rfl) (by rw [hx]; rfl)
    ·exact hfin h2 (by rw [hx]; rfl) (by rw [hx]; rfl) (by rw [hx]; rfl) (by rw [hx]; rfl)
  ·rcases List.mem_append.1 hf with hf | hf
   ·exact h1.idx f hf hk hp hkey
   ·obtain ⟨p,hpm,rfl⟩:=List.mem_map.1 hf
    have hk':p.kind = 2:=hk
    obtain ⟨i,hi,hx⟩:=hw p hpm hk'
    rw [show (⟨1 - (s:Int),(X.sd s).boot,p⟩:Fl).dst.toNat = (1 - (s:Int)).toNat from rfl,hoo] at hp ⊢
    rw [set_en] at hp
    have h2:(X.sd s).end_.phase = 2:=hp
    rw [Pr.set_eq]
    obtain ⟨hql,hbase⟩:=lo_hi hd h2
    refine ⟨loS (X.sd s) + i,?_,?_⟩
    ·show p.seq = _
     rw [hx]
     show IntKind.u32.wrap ((X.sd s).end_.base + IntKind.u32.wrap (i:Int)) = _
     rw [hbase,sn_addw]
    ·show loS (X.sd s) + i < (ofK 3 (X.sd s).log (keyL (X.sd s).end_)).length - ((X.sd s).end_.queue.length - 8)
     unfold loS
     have hi':i < min 8 (X.sd s).end_.queue.length:=hi
     omega
 exact key.ways (ws:=(goX X s).way) (fun f hf => List.mem_of_mem_take hf)
theorem do_linv {X:Pr} {N:Nat} (hr:RI X N) (h:LInv X) (hN:N < 4294967295) (a:Act):LInv (doX X a):=by
 unfold doX
 split
 ·rename_i hb
  obtain ⟨h1,hw⟩:=act_linv hr h hN hb
  have p0:=act_inv hr.inv hN hb
  have q0:=pump_linv p0 h1 (s:=0) (by decide) (hw 0 (by decide))
  refine pump_linv (p0.pump (s:=0) (by decide)) q0 (s:=1) (by decide) ?_
  have:(pumpX (actX X a) 0).en 1 = (actX X a).en 1:=by unfold Pr.en; rw [pump_sd,if_neg (by decide)]
  rw [this]; exact hw 1 (by decide)
 ·exact h
theorem new_linv:LInv newX:=⟨fun f hf => (by cases hf),fun f hf => (by cases hf),fun s hs h2 => absurd (show (0:Int) = 2 from h2) (by decide),fun s hs h2 => absurd (show (0:Int) = 2 from h2) (by decide)⟩
end Go.Proofs.Ytnkkgofpifhoeaa.Pr
end
section
namespace Go.Proofs.Ytnkkgofpifhoeaa.Pr
open Go.Proofs.Ytnkkgofpifhoeaa.Lk
def Seq (P:Nat → Fl → Prop):List Fl → Nat → Nat → Prop
 | [],_,n => n = 0
 | f :: l,a,n => n = 0 ∨ (P a f ∧ Seq P l (a + 1) (n - 1)) ∨ Seq P l a n
section
variable {P:Nat → Fl → Prop}
theorem seq_zero (l:List Fl) (a:Nat):Seq P l a 0:=by cases l <;> simp [Seq]
theorem seq_cons {f:Fl} {l:List Fl} {a n:Nat} (h:Seq P l a n):Seq P (f :: l) a n:=.inr (.inr h)
theorem seq_tail:∀ (l:List Fl) (a n:Nat),Seq P l a n → Seq P l (a + 1) (n - 1):=by
 intro l
 induction l with
 | nil => intro a n h; have h':n = 0:=h; subst h'; exact rfl
 | cons f l ih =>
  intro a n h
  rcases h with h | h | h
  ·subst h; exact .inl rfl
  ·exact seq_cons h.2
  ·exact seq_cons (ih a n h)
theorem seq_drop (k:Nat):∀ {l:List Fl} {a n:Nat},Seq P l a n → Seq P l (a + k) (n - k):=by
 induction k with
 | zero => exact fun h => h
 | succ k ih =>
  intro l a n h
  have:=ih (seq_tail l a n h)
  rwa [show a + 1 + k = a + (k + 1) by omega,show n - 1 - k = n - (k + 1) by omega] at this
theorem seq_take {f:Fl} {l:List Fl} {a n:Nat} (h:Seq P (f :: l) a n):Seq P l (a + 1) (n - 1):=by
 rcases h with h | h | h
 ·subst h; exact seq_zero _ _
 ·exact h.2
 ·exact seq_tail _ _ _ h
theorem seq_head {f:Fl} {l:List Fl} {a n:Nat} (h:Seq P (f :: l) a n) (hn:¬ P a f):Seq P l a n:=by
 rcases h with h | h | h
 ·subst h; exact seq_zero _ _
 ·exact absurd h.1 hn
 ·exact h
theorem seq_app {m:List Fl}:∀ {l:List Fl} {a n:Nat},Seq P l a n → Seq P (l ++ m) a n:=by
 intro l
 induction l with
 | nil => intro a n h; have h':n = 0:=h; subst h'; exact seq_zero _ _
 | cons f l ih =>
  intro a n h
  rcases h with h | h | h
  ·exact .inl h
  ·exact .inr (.inl ⟨h.1,ih h.2⟩)
  ·exact .inr (.inr (ih h))
theorem seq_pre {m:List Fl} {a n:Nat} (h:Seq P m a n):∀ l:List Fl,Seq P (l ++ m) a n:=by
 intro l
 induction l with
 | nil => exact h
 | cons f l ih => exact seq_cons ih
theorem seq_join {m:List Fl} {k:Nat}:∀ {l:List Fl} {a n:Nat},Seq P l a n → Seq P m (a + n) k → Seq P (l ++ m) a (n + k):=by
 intro l
 induction l with
 | nil => intro a n h hm; have h':n = 0:=h; subst h'; rw [Nat.zero_add]; exact hm
 | cons f l ih =>
  intro a n h hm
  rcases h with h | h | h
  ·subst h; rw [Nat.zero_add]; exact seq_pre hm _
  ·cases n with
   | zero => rw [Nat.zero_add]; exact seq_pre hm _
   | succ n =>
    have:=ih h.2 (by rw [show a + 1 + (n + 1 - 1) = a + (n + 1) by omega]; exact hm)
    exact .inr (.inl ⟨h.1,by rw [show n + 1 + k - 1 = n + 1 - 1 + k by omega]; exact this⟩)
  ·exact seq_cons (ih h hm)
theorem seq_mem:∀ {l:List Fl} {a n:Nat},Seq P l a n → 0 < n → ∃ f ∈ l,P a f:=by
 intro l
 induction l with
 | nil => intro a n h hn; have h':n = 0:=h; omega
 | cons f l ih =>
  intro a n h hn
  rcases h with h | h | h
  ·omega
  ·exact ⟨f,List.mem_cons_self,h.1⟩
  ·obtain ⟨g,hg,hp⟩:=ih h hn
   exact ⟨g,List.mem_cons_of_mem _ hg,hp⟩
theorem seq_map {g:Nat → Fl}:∀ (n:Nat) {a b:Nat},(∀ i,i < n → P (a + i) (g (b + i))) → Seq P ((List.range' b n).map g) a n:=by
 intro n
 induction n with
 | zero => intro a b h; exact seq_zero _ _
 | succ n ih =>
  intro a b h
  rw [List.range'_succ,List.map_cons]
  refine .inr (.inl ⟨h 0 (by omega),ih (fun i hi => ?_)⟩)
  have:=h (i + 1) (by omega)
  rwa [show a + (i + 1) = a + 1 + i by omega,show b + (i + 1) = b + 1 + i by omega] at this
end
def IsD (K:Key) (s j:Nat) (f:Fl):Prop:=f.dst = ((1 - s:Nat):Int) ∧ f.p.kind = 2 ∧ keyF f = K ∧ f.p.seq = sn j
def IsA (K:Key) (s a:Nat) (f:Fl):Prop:=f.dst = (s:Int) ∧ f.p.kind ≠ 1 ∧ keyF f = mir K ∧ f.p.ack = sn a
structure Cur (K:Key) (s:Nat) (S:List (List Int)) (l:List Ent) (X:Pr):Prop where
 s2:s < 2
 jn:Jn X
 k:keyL (X.en s) = K
 ko:keyL (X.en (1 - s)) = mir K
 li:LInv X
 sent:ofK 3 (X.sd s).log K = S
 log:∃ g,(X.sd (1 - s)).log = l ++ g ∧ ∀ x ∈ g,x.kind = 4 ∧ keyE x = mir K
def gotN (K:Key) (s:Nat) (X:Pr):Nat:=(ofK 4 (X.sd (1 - s)).log (mir K)).length
def qN (s:Nat) (X:Pr):Nat:=(X.en s).queue.length
def loN (S:List (List Int)) (s:Nat) (X:Pr):Nat:=S.length - qN s X
def hiN (S:List (List Int)) (s:Nat) (X:Pr):Nat:=S.length - (qN s X - 8)
structure Bnd (K:Key) (s:Nat) (S:List (List Int)) (X:Pr) (N:Nat):Prop where
 q:qN s X ≤ S.length
 lo:loN S s X ≤ gotN K s X
 hi:gotN K s X ≤ hiN S s X
 base:(X.en s).base = sn (loN S s X)
 exp:(X.en (1 - s)).expected = sn (gotN K s X)
 len:S.length ≤ N
 glen:gotN K s X ≤ N
theorem bnd_of {K:Key} {s:Nat} {S:List (List Int)} {l:List Ent} {X:Pr} {N:Nat} (hr:RI X N) (h:Cur K s S l X):Bnd K s S X N:=by
 have hs:=h.s2
 have hd:=hr.inv.p.side s hs
 have hd':=hr.inv.p.side (1 - s) (by omega)
 have h2:(X.en s).phase = 2:=jn_any h.jn hs
 have h2':(X.en (1 - s)).phase = 2:=jn_any h.jn (by omega)
 have e1:ofK 3 (X.sd s).log (keyL (X.sd s).end_) = S:=by rw [show keyL (X.sd s).end_ = K from h.k]; exact h.sent
 obtain ⟨a,b⟩:=lo_hi hd h2
 have e2:loS (X.sd s) = loN S s X:=by unfold loS; rw [e1]; rfl
 have e3:hiS (X.sd s) = hiN S s X:=by unfold hiS uns; rw [e1]; rfl
 have e4:eS X s = gotN K s X:=by unfold eS; rw [h.k]; rfl
 rw [e1] at a
 rw [e2] at b
 have c:=h.li.lo s hs h2
 have d:=h.li.hi s hs h2
 have g:=hd'.got h2'
 rw [show keyL (X.sd (1 - s)).end_ = mir K from h.ko] at g
 refine ⟨a,by rw [← e2,← e4]; exact c,by rw [← e3,← e4]; exact d,b,g,?_,?_⟩
 ·rw [← e1]; exact Nat.le_trans (ofK_len _ _ _) hd.len
 ·exact Nat.le_trans (ofK_len _ _ _) hd'.len
inductive Eff (K:Key) (s:Nat) (S:List (List Int)) (X Y:Pr) (f:Fl):Prop
 | next (hd:IsD K s (gotN K s X) f) (he:gotN K s Y = gotN K s X + 1) (hq:qN s Y = qN s X) (hi:(Y.en s).idle = (X.en s).idle) (ha:∃ g ∈ tkOut X f,IsA K s (gotN K s Y) g) (hn:∀ g ∈ tkOut X f,∀ i,¬ IsD K s i g):Eff K s S X Y f
 | dup (hd:∃ j,IsD K s j f) (hg:¬ IsD K s (gotN K s X) f) (he:gotN K s Y = gotN K s X) (hq:qN s Y = qN s X) (hi:(Y.en s).idle = (X.en s).idle) (ha:∃ g ∈ tkOut X f,IsA K s (gotN K s Y) g) (hn:∀ g ∈ tkOut X f,∀ i,¬ IsD K s i g):Eff K s S X Y f
 | ack (hd:∀ j,¬ IsD K s j f) (he:gotN K s Y = gotN K s X) (hb:∀ b,b ≤ gotN K s X → IsA K s b f → b ≤ loN S s Y) (hq:qN s Y ≤ qN s X) (hi:(Y.en s).idle = (X.en s).idle ∨ qN s Y < qN s X) (hs:Seq (IsD K s) (tkOut X f) (hiN S s X) (hiN S s Y - hiN S s X)) (hn:∀ g ∈ tkOut X f,∀ i,IsD K s i g → hiN S s X ≤ i):Eff K s S X Y f
theorem hd_sd {X:Pr} {N:Nat} (hI:Inv X N) {f:Fl} {rest:List Fl} (hw:X.way = f :: rest):(hdX X).sd f.dst.toNat = endF (takeS (X.sd f.dst.toNat) (takeF (X.sd f.dst.toNat).end_ f.boot f.p)) (outL (tkL X f)):=by
 have hf:=hI.p.fl f (by rw [hw]; exact List.mem_cons_self)
 have hs:f.dst.toNat < 2:=by have:=hf.dst; omega
 have hb:badA X hdA = 0:=by
  unfold badA hdA
  rw [if_neg (show ¬ ((6:Int) < 1 ∨ (8:Int) < 6) by decide),if_neg (show ¬ ((6:Int) < 6 ∧ (0:Int) ≠ 0 ∧ (0:Int) ≠ 1) by decide),if_neg]
  rw [hw]; simp only [List.length_cons]; omega
 have e0:actX X hdA = deliverX X 0:=rfl
 have e1:deliverX X 0 = ({ X with way:=rest }:Pr).set f.dst.toNat (takeS (X.sd f.dst.toNat) (takeF (X.sd f.dst.toNat).end_ f.boot f.p)):=by
  unfold deliverX
  rw [hw]; rfl
 have hlen:rest.length ≤ 1024:=by have:=hI.p.way; rw [hw] at this; simp only [List.length_cons] at this; omega
 have e2:hdX X = goX (({ X with way:=rest }:Pr).set f.dst.toNat (takeS (X.sd f.dst.toNat) (takeF (X.sd f.dst.toNat).end_ f.boot f.p))) f.dst.toNat:=by
  unfold hdX doX
  rw [if_pos hb,e0,e1]
  refine pump2 hs ?_ hlen
  rw [Pr.set_ne _ (by omega)]
  exact hI.out _ (by omega)
 rw [e2,go_sd,Pr.set_eq,takeS_end]
 rfl
theorem age_of {L:Lk} {b m:Int} (h1:b = L.boot) (h2:m = L.yours):ageF L b m = 0:=by
 unfold ageF; subst h1; subst h2; simp
theorem meant_of {L:Lk} {p:Pkt} (h1:p.boot = L.own) (h2:p.yours = L.token):meantF L p = true:=by unfold meantF; exact decide_eq_true ⟨h1,h2⟩
theorem up_queue (L:Lk) (p:Pkt):(upL L p).queue = L.queue.drop (if 1 ≤ ackK L p ∧ (ackK L p:Int) ≤ L.sent then ackK L p else 0):=by
 have h:(upN L p).queue = L.queue.drop (if 1 ≤ ackK L p ∧ (ackK L p:Int) ≤ L.sent then ackK L p else 0):=by
  unfold upN
  split
  ·rw [(fill_same _).queue]; show (upM L p).queue.drop _ = _; rw [upM_queue]
  ·rw [upM_queue,List.drop_zero]
 unfold upL
 split
 ·rw [(emit_same _ _).queue]; exact h
 ·exact h
theorem up_idle {L:Lk} {p:Pkt} (hc:¬ (1 ≤ ackK L p ∧ (ackK L p:Int) ≤ L.sent)):(upL L p).idle = L.idle:=by
 have h:(upN L p).idle = L.idle:=by
  unfold upN
  rw [if_neg hc]
  unfold upM; split <;> rfl
 unfold upL
 split
 ·rw [emit_idle]; exact h
 ·exact h
end Go.Proofs.Ytnkkgofpifhoeaa.Pr
end
section
namespace Go.Proofs.Ytnkkgofpifhoeaa.Pr
open Go.Proofs.Ytnkkgofpifhoeaa.Lk
theorem Cur.move {K:Key} {s:Nat} {S:List (List Int)} {l:List Ent} {X Y:Pr} (h:Cur K s S l X) (hli:LInv Y) (hph:∀ t,t < 2 → (Y.en t).phase = (X.en t).phase) (hk:∀ t,t < 2 → keyL (Y.en t) = keyL (X.en t))
  (h3:ofK 3 (Y.sd s).log K = ofK 3 (X.sd s).log K) (h4:∃ g,(Y.sd (1 - s)).log = (X.sd (1 - s)).log ++ g ∧ ∀ x ∈ g,x.kind = 4 ∧ keyE x = mir K):Cur K s S l Y:=by
 have hs:=h.s2
 refine ⟨hs,⟨(hph 0 (by decide)).trans h.jn.1,(hph 1 (by decide)).trans h.jn.2⟩,(hk s hs).trans h.k,(hk (1 - s) (by omega)).trans h.ko,hli,h3.trans h.sent,?_⟩
 obtain ⟨g,hg,hx⟩:=h.log
 obtain ⟨g',hg',hx'⟩:=h4
 refine ⟨g ++ g',by rw [hg',hg,List.append_assoc],fun x hm => ?_⟩
 rcases List.mem_append.1 hm with hm | hm
 ·exact hx x hm
 ·exact hx' x hm
set_option maxHeartbeats 1000000 in
theorem eff_of {K:Key} {s:Nat} {S:List (List Int)} {l:List Ent} {X:Pr} {f:Fl} {R E E':List Fl} {N:Nat} (h:Dl X (hdX X) f R E E' N) (hc:Cur K s S l X):Cur K s S l (hdX X) ∧ Eff K s S X (hdX X) f:=by
 have hI:=h.ri.inv
 have hs:=hc.s2
 have hB:=bnd_of h.ri hc
 have hli:=do_linv h.ri hc.li h.small hdA
 have hri:=ri_do h.ri h.small hdA
 have hsd:=hd_sd hI h.way
 have hot:=h.hd.ne
 have hfm:=h.mem
 have hfl:=hI.p.fl f hfm
 have hdst:=h.dst
 have ht2:=h.s2
 have hko:=h.hd.en
 generalize hY:hdX X = Y at *
 have hYY:doX X hdA = Y:=hY
 rw [hYY] at hli hri
 have hjn:=hc.jn
 have hgetk:keyF f = mir (keyL (X.en f.dst.toNat)) ∨ ¬ keyF f = mir (keyL (X.en f.dst.toNat)):=Classical.em _
 have htout:∀ g ∈ tkOut X f,g.dst = 1 - f.dst:=fun g hg => by
  unfold tkOut at hg
  obtain ⟨p,hp,rfl⟩:=List.mem_map.1 hg; rfl
 have hkt:∀ t,t < 2 → t = s ∨ t = 1 - s:=fun t ht => by omega
 have hkey:∀ t,t < 2 → keyL (X.en t) = if t = s then K else mir K:=fun t ht => by
  rcases hkt t ht with rfl | rfl
  ·rw [if_pos rfl]; exact hc.k
  ·rw [if_neg (by omega)]; exact hc.ko
 have hdl:=hI.p.side _ ht2
 have hph2:(X.en f.dst.toNat).phase = 2:=jn_any hjn ht2
 have hph2':(X.en (1 - f.dst.toNat)).phase = 2:=jn_any hjn (by omega)
 have hno:=h.no_new hph2 hph2'
 obtain ⟨hcs,_⟩:=take_turn hdl.fine.ok (hI.out _ ht2) f.boot f.p
 have hx:takeF (X.sd f.dst.toNat).end_ f.boot f.p = ((takeF (X.sd f.dst.toNat).end_ f.boot f.p).1,(takeF (X.sd f.dst.toNat).end_ f.boot f.p).2):=rfl
 have hL0:tkL X f = (takeF (X.sd f.dst.toNat).end_ f.boot f.p).1:=rfl
 have hword:keyF f = mir (keyL (X.en f.dst.toNat)) → ageF (X.en f.dst.toNat) f.boot f.p.mine = 0 ∧ meantF (X.en f.dst.toNat) f.p = true:=fun hk => by
  obtain ⟨k1,k2,k3,k4⟩:=key_eq hk
  exact ⟨age_of k1 k2,meant_of k3 k4⟩
 have hfromD:∀ j,IsD K s j f → f.dst.toNat = 1 - s ∧ keyF f = mir (keyL (X.en f.dst.toNat)):=fun j hd => by
  have:f.dst.toNat = 1 - s:=by rw [hd.1]; omega
  refine ⟨this,?_⟩
  rw [this,hc.ko]; exact hd.2.2.1
 have hfromA:∀ a,IsA K s a f → f.dst.toNat = s ∧ keyF f = mir (keyL (X.en f.dst.toNat)):=fun a hd => by
  have:f.dst.toNat = s:=by rw [hd.1]; omega
  refine ⟨this,?_⟩
  rw [this,hc.k]; exact hd.2.2.1
 have hquiet:∀ L':Lk,Same (X.en f.dst.toNat) L' → L'.idle = (X.en f.dst.toNat).idle → Y.sd f.dst.toNat = endF (X.sd f.dst.toNat) (outL L') → (∀ j,¬ IsD K s j f) → (∀ a,¬ IsA K s a f) → (∀ g ∈ tkOut X f,∀ i,¬ IsD K s i g) → Cur K s S l Y ∧ Eff K s S X Y f:=fun L' hss hid hyd hnd hna hout => by
  have hen:Y.en f.dst.toNat = outL L':=by unfold Pr.en; rw [hyd]; rfl
  have hsame:∀ t,t < 2 → Same (X.en t) (Y.en t) ∧ (Y.en t).idle = (X.en t).idle ∧ (Y.sd t).log = (X.sd t).log:=fun t ht => by
   by_cases hts:t = f.dst.toNat
   ·subst hts
    refine ⟨by rw [hen]; exact hss.trans (out_same _),by rw [hen]; exact hid,by rw [hyd]; rfl⟩
   ·have e:=hot t hts
    refine ⟨?_,?_,by rw [e]⟩ <;> (unfold Pr.en; rw [e])
    exact Same.refl _
  have e1:=hsame s hs
  have e2:=hsame (1 - s) (by omega)
  have eg:gotN K s Y = gotN K s X:=by unfold gotN; rw [e2.2.2]
  have eq:qN s Y = qN s X:=by unfold qN; rw [e1.1.queue]
  refine ⟨hc.move hli (fun t ht => (hsame t ht).1.phase) (fun t ht => keyL_same (hsame t ht).1) (by rw [e1.2.2]) ⟨[],by rw [e2.2.2,List.append_nil],fun x hx => by cases hx⟩,?_⟩
  refine .ack hnd eg (fun b _ hb => absurd hb (hna b)) (by rw [eq]; exact Nat.le_refl _) (.inl e1.2.1) ?_ (fun g hg i hi => absurd hi (hout g hg i))
  have:hiN S s Y - hiN S s X = 0:=by unfold hiN; rw [eq]; omega
  rw [this]; exact seq_zero _ _
 generalize hT:(takeF (X.sd f.dst.toNat).end_ f.boot f.p).2 = tk at *
 generalize hLL:(takeF (X.sd f.dst.toNat).end_ f.boot f.p).1 = L' at *
 rw [hx] at hsd
 cases hcs with
 | @none hd0 hr =>
  have hnk:¬ keyF f = mir (keyL (X.en f.dst.toNat)) ∨ f.p.kind = 1:=by
   by_cases hk1:f.p.kind = 1
   ·exact .inr hk1
   ·left
    intro hk
    obtain ⟨a1,a2⟩:=hword hk
    unfold Pr.en at a1 a2 hph2
    rcases hr with hr | hr | hr | hr
    ·omega
    ·omega
    ·rcases hr.2 with hr | hr | hr
     ·omega
     ·omega
     ·rw [a2] at hr; exact absurd hr (by decide)
    ·exact hk1 hr.1
  refine hquiet (X.en f.dst.toNat) (Same.refl _) rfl ?_ ?_ ?_ ?_
  ·rw [hsd,hL0]; rfl
  ·intro j hj
   rcases hnk with hnk | hnk
   ·exact hnk (hfromD j hj).2
   ·have:=hj.2.1; omega
  ·intro a ha
   rcases hnk with hnk | hnk
   ·exact hnk (hfromA a ha).2
   ·exact ha.2.1 hnk
  ·intro g hg
   unfold tkOut at hg
   rw [hL0,hI.out _ ht2] at hg
   cases hg
 | up h1 _ _ _ _ _ => unfold Pr.en at hph2; omega
 | learn h1 _ _ _ _ _ => unfold Pr.en at hph2; omega
 | last _ _ ha _ => exact absurd ha hno
 | anew _ _ ha _ _ _ => exact absurd ha hno
 | again h2 hk ha h0 hss hy =>
  have hlen:(X.sd f.dst.toNat).end_.out.length < 1024:=by rw [hI.out _ ht2]; decide
  refine hquiet L' hss (by rw [hy,emit_idle]) ?_ (fun j hj => by have:=hj.2.1; omega) (fun a ha => ha.2.1 hk) ?_
  ·rw [hsd,hL0]; rfl
  ·intro g hg i hi
   unfold tkOut at hg
   rw [hL0,hy,emit_out hlen,hI.out _ ht2] at hg
   obtain ⟨p,hp,rfl⟩:=List.mem_map.1 hg
   rw [List.nil_append,List.mem_singleton] at hp
   have:p.kind = 2:=hi.2.1
   rw [hp] at this
   exact absurd this (by show ¬ (1:Int) = 2; decide)
 | signal h2 hk ha hm k hkk hxx hy =>
  have haz:=age_zero ha
  have hmz:=meant_iff hm
  have hkf:keyF f = mir (keyL (X.en f.dst.toNat)):=by unfold keyF mir keyL Pr.en; rw [haz.1,haz.2,hmz.1,hmz.2]
  have hke:keyL L' = keyL (X.en f.dst.toNat):=(keyL_same hxx).trans rfl
  have hgc:=good_cases hfl.good
  have hYen:Y.en f.dst.toNat = outL L':=by unfold Pr.en; rw [hsd,hL0]; rfl
  have hYo:Y.sd (1 - f.dst.toNat) = X.sd (1 - f.dst.toNat):=hot _ (by omega)
  have hphY:∀ t,t < 2 → (Y.en t).phase = (X.en t).phase:=fun t ht => by
   by_cases hts:t = f.dst.toNat
   ·subst hts; rw [hYen]; show L'.phase = _; rw [hxx.phase]; rfl
   ·unfold Pr.en; rw [hot t hts]
  have hkY:∀ t,t < 2 → keyL (Y.en t) = keyL (X.en t):=fun t ht => by
   by_cases hts:t = f.dst.toNat
   ·subst hts; rw [hYen]; exact hke
   ·unfold Pr.en; rw [hot t hts]
  have hq0:f.p.kind = 2 ∧ f.p.seq = (X.en f.dst.toNat).expected → (Y.sd f.dst.toNat).log = (X.sd f.dst.toNat).log ++ [entF (endF (X.sd f.dst.toNat) L') 4 f.p.body]:=fun hg => by
   have hb:upB (X.sd f.dst.toNat).end_ f.p = f.p.body:=by unfold upB; rw [if_pos hg]
   rw [hsd]
   unfold takeS
   rw [if_neg (show ¬ false = true by decide),if_neg (show ¬ false = true by decide),hb,if_pos (hgc.2 hg.1)]
   rfl
  have hq1:¬ (f.p.kind = 2 ∧ f.p.seq = (X.en f.dst.toNat).expected) → (Y.sd f.dst.toNat).log = (X.sd f.dst.toNat).log:=fun hg => by
   have hb:upB (X.sd f.dst.toNat).end_ f.p = []:=by unfold upB; rw [if_neg hg]
   rw [hsd]
   unfold takeS
   rw [if_neg (show ¬ false = true by decide),if_neg (show ¬ false = true by decide),hb,if_neg (by simp)]
   rfl
  have hek:keyE (entF (endF (X.sd f.dst.toNat) L') 4 f.p.body) = keyL (X.en f.dst.toNat):=entF_key2 hdl h2 4 _
  rcases hkt _ ht2 with hts | hts
  ·
   have hdsts:f.dst = (s:Int):=by rw [hdst,hts]
   have eo:Y.sd (1 - s) = X.sd (1 - s):=by rw [← hts]; exact hYo
   have eg:gotN K s Y = gotN K s X:=by unfold gotN; rw [eo]
   have h3:ofK 3 (Y.sd s).log K = ofK 3 (X.sd s).log K:=by
    by_cases hg:f.p.kind = 2 ∧ f.p.seq = (X.en f.dst.toNat).expected
    ·have:=hq0 hg
     rw [hts] at this
     rw [this]
     exact ofK_no (show (4:Int) ≠ 3 by decide)
    ·have:=hq1 hg
     rw [hts] at this
     rw [this]
   have hcur:Cur K s S l Y:=hc.move hli hphY hkY h3 ⟨[],by rw [eo,List.append_nil],fun x hx => by cases hx⟩
   have hBY:=bnd_of hri hcur
   refine ⟨hcur,?_⟩
   obtain ⟨a,ha1,ha2⟩:=hc.li.ack f hfm hk
   have hkfK:keyF f = mir K:=by rw [hkf,hts,hc.k]
   rw [hts,hkfK] at ha2
   have ha2':a ≤ gotN K s X:=ha2
   have hq:=hB.q; have hlo:=hB.lo; have hhi:=hB.hi; have hlen:=hB.len
   have hwn:=h.ri.wn s hs
   have hfull:=hwn.full
   have hN:=h.small
   rw [hts] at hy hYen hxx hkk
   have hbase:(X.sd s).end_.base = sn (loN S s X):=hB.base
   have hqe:(X.sd s).end_.queue.length = qN s X:=rfl
   have elo:loN S s X = S.length - qN s X:=rfl
   have ehi:hiN S s X = S.length - (qN s X - 8):=rfl
   have hac:ackK (X.sd s).end_ f.p = (IntKind.u32.wrap (sn a - sn (loN S s X))).toNat:=by unfold ackK; rw [ha1,hbase]
   have hfull':(X.sd s).end_.sent = ((min 8 (qN s X):Nat):Int):=hfull
   have hak:if loN S s X < a then ackK (X.sd s).end_ f.p = a - loN S s X ∧ (1 ≤ ackK (X.sd s).end_ f.p ∧ (ackK (X.sd s).end_ f.p:Int) ≤ (X.sd s).end_.sent) else ¬ (1 ≤ ackK (X.sd s).end_ f.p ∧ (ackK (X.sd s).end_ f.p:Int) ≤ (X.sd s).end_.sent):=by
    rw [hac,hfull']
    unfold sn
    simp only [wrapU]
    split <;> omega
   have hqY:(upL (X.sd s).end_ f.p).queue = (X.sd s).end_.queue.drop (a - loN S s X):=by
    rw [up_queue]
    by_cases hl:loN S s X < a
    ·rw [if_pos hl] at hak; rw [if_pos hak.2,hak.1]
    ·rw [if_neg hl] at hak; rw [if_neg hak,show a - loN S s X = 0 by omega]
   have hkeq:k = a - loN S s X:=by
    have h1:(upL (X.sd s).end_ f.p).queue = (X.sd s).end_.queue.drop k:=by rw [← hy]; exact hxx.queue
    have h2:=congrArg List.length (h1.symm.trans hqY)
    rw [List.length_drop,List.length_drop] at h2
    have hks:k ≤ qN s X:=by omega
    omega
   have hqYN:qN s Y = qN s X - (a - loN S s X):=by
    unfold qN
    rw [hYen]
    show L'.queue.length = _
    rw [hy,hqY,List.length_drop]
   have hloY:loN S s Y = loN S s X + (a - loN S s X):=by
    have e:loN S s Y = S.length - qN s Y:=rfl
    omega
   have hhiY:hiN S s Y = S.length - (qN s Y - 8):=rfl
   have hyx:Same (upK (X.sd s).end_ f.p k) (upL (X.sd s).end_ f.p):=hy ▸ hxx
   obtain ⟨_,ls,hls,_,hlr,_,_⟩:=up_out hwn (hI.out s hs) f.p hkk hyx
   have hkind3:∀ q ∈ (if f.p.kind = 2 then [ackP (upL (X.sd s).end_ f.p)] else []),q.kind = 3:=fun q hq => by
    split at hq
    ·rw [List.mem_singleton.1 hq]; rfl
    ·cases hq
   have hto:tkOut X f = ((List.range' (min 8 (qN s X) - k) (min 8 (qN s X - k) - (min 8 (qN s X) - k))).map (fun i:Nat => (⟨1 - f.dst,(X.sd s).boot,dataP (upL (X.sd s).end_ f.p) (i:Int)⟩:Fl))) ++ (if f.p.kind = 2 then [ackP (upL (X.sd s).end_ f.p)] else []).map (fun p => (⟨1 - f.dst,(X.sd s).boot,p⟩:Fl)):=by
    unfold tkOut
    rw [hL0,hy,hts,hls,List.map_append,List.map_map,hlr]
    rfl
   have hbY:(upL (X.sd s).end_ f.p).base = sn (loN S s Y):=by rw [← hBY.base,hYen,hy]; rfl
   have hbo:(X.sd s).boot = (X.sd s).end_.own:=(hI.p.side s hs).boot
   have hkL:keyL (upL (X.sd s).end_ f.p) = K:=by rw [← hy,hke,hts]; exact hc.k
   have hdata:∀ i:Nat,IsD K s (loN S s Y + i) ⟨1 - f.dst,(X.sd s).boot,dataP (upL (X.sd s).end_ f.p) (i:Int)⟩:=fun i => by
    refine ⟨by show 1 - f.dst = _; omega,rfl,?_,?_⟩
    ·rw [← hkL]
     show ((X.sd s).boot,_,_,_) = _
     have:(upL (X.sd s).end_ f.p).own = (X.sd s).end_.own:=by rw [← hy]; exact hxx.own
     unfold keyL
     rw [this,hbo]; rfl
    ·show IntKind.u32.wrap ((upL (X.sd s).end_ f.p).base + IntKind.u32.wrap (i:Int)) = _
     rw [hbY,sn_addw]
   refine .ack (fun j hj => ?_) eg (fun b hb1 hb2 => ?_) (by omega) ?_ ?_ (fun g hg i hi => ?_)
   ·have:=hj.1; omega
   ·have e:sn b = sn a:=by rw [← hb2.2.2.2,ha1]
    have:=sn_inj (by have:=hB.glen; omega) (by have:=hB.glen; omega) e
    omega
   ·by_cases hl:loN S s X < a
    ·right; omega
    ·left
     rw [if_neg hl] at hak
     rw [hYen]
     show L'.idle = _
     rw [hy,up_idle hak]
   ·rw [hto]
    refine seq_app ?_
    have e1:hiN S s Y - hiN S s X = min 8 (qN s X - k) - (min 8 (qN s X) - k):=by omega
    rw [e1]
    refine seq_map _ (fun i hi => ?_)
    have:=hdata (min 8 (qN s X) - k + i)
    rwa [show loN S s Y + (min 8 (qN s X) - k + i) = hiN S s X + i by omega] at this
   ·rw [hto] at hg
    rcases List.mem_append.1 hg with hg | hg
    ·obtain ⟨m,hm,rfl⟩:=List.mem_map.1 hg
     rw [List.mem_range'] at hm
     obtain ⟨r,hr,rfl⟩:=hm
     have e:=(hdata (min 8 (qN s X) - k + 1 * r)).2.2.2.symm.trans hi.2.2.2
     by_cases hbig:i < 4294967296
     ·have:=sn_inj (by omega) hbig e
      omega
     ·omega
    ·obtain ⟨p,hp,rfl⟩:=List.mem_map.1 hg
     have h3:=hkind3 p hp
     have:p.kind = 2:=hi.2.1
     omega
  ·
   have hdsts:f.dst = ((1 - s:Nat):Int):=by rw [hdst,hts]
   have eo:Y.sd s = X.sd s:=by
    have:=hYo
    rw [hts,show 1 - (1 - s) = s by omega] at this; exact this
   have eqq:qN s Y = qN s X:=by unfold qN Pr.en; rw [eo]
   have eid:(Y.en s).idle = (X.en s).idle:=by unfold Pr.en; rw [eo]
   have hkfK:keyF f = K:=by rw [hkf,hts,hc.ko]; rfl
   have hoD:∀ g ∈ tkOut X f,∀ i,¬ IsD K s i g:=fun g hg i hi => by
    have h1:=htout g hg
    have h2:=hi.1
    omega
   have hexp:=hB.exp
   by_cases hk2:f.p.kind = 2
   ·obtain ⟨j,_,hj⟩:=hfl.data hk2
    have hD:∀ i,f.p.seq = sn i → IsD K s i f:=fun i hi => ⟨hdsts,hk2,hkfK,hi⟩
    have hcur:Cur K s S l Y:=by
     refine hc.move hli hphY hkY (by rw [eo]) ?_
     by_cases hg:f.p.kind = 2 ∧ f.p.seq = (X.en f.dst.toNat).expected
     ·have:=hq0 hg
      rw [← hts]
      refine ⟨_,this,fun x hx => ?_⟩
      rw [List.mem_singleton.1 hx]
      exact ⟨rfl,by rw [hek,hts]; exact hc.ko⟩
     ·have:=hq1 hg
      rw [← hts]
      exact ⟨[],by rw [this,List.append_nil],fun x hx => by cases hx⟩
    have hBY:=bnd_of hri hcur
    refine ⟨hcur,?_⟩
    have hack:∃ g ∈ tkOut X f,IsA K s (gotN K s Y) g:=by
     refine ⟨⟨1 - f.dst,(X.sd f.dst.toNat).boot,ackP (upL (X.sd f.dst.toNat).end_ f.p)⟩,?_,?_,?_,?_,?_⟩
     ·unfold tkOut
      refine List.mem_map.2 ⟨_,?_,rfl⟩
      have hyx:Same (upK (X.sd f.dst.toNat).end_ f.p k) (upL (X.sd f.dst.toNat).end_ f.p):=hy ▸ hxx
      obtain ⟨_,ls,hls,_⟩:=up_out (h.ri.wn _ ht2) (hI.out _ ht2) f.p hkk hyx
      rw [hL0,hy,hls,if_pos hk2]
      exact List.mem_append.2 (.inr (List.mem_singleton.2 rfl))
     ·show 1 - f.dst = _; omega
     ·show ¬ (3:Int) = 1; decide
     ·show ((X.sd f.dst.toNat).boot,_,_,_) = mir K
      rw [← hc.ko,← hts,← hke,hy]
      have:(upL (X.sd f.dst.toNat).end_ f.p).own = (X.sd f.dst.toNat).end_.own:=by rw [← hy]; exact hxx.own
      unfold keyL
      rw [this,hdl.boot]; rfl
     ·show (upL (X.sd f.dst.toNat).end_ f.p).expected = _
      rw [← hBY.exp,← hts,hYen,hy]; rfl
    by_cases hg:f.p.kind = 2 ∧ f.p.seq = (X.en f.dst.toNat).expected
    ·have hlog:=hq0 hg
     rw [hts] at hlog hek
     have hge:gotN K s Y = gotN K s X + 1:=by
      unfold gotN
      rw [hlog,ofK_yes (show (entF _ 4 f.p.body).kind = 4 from rfl) (hek.trans hc.ko),List.length_append]; rfl
     rw [hts] at hg
     exact .next (hD _ (hg.2.trans hexp)) hge eqq eid hack hoD
    ·have hlog:=hq1 hg
     rw [hts] at hlog hg
     have hge:gotN K s Y = gotN K s X:=by unfold gotN; rw [hlog]
     exact .dup ⟨j,hD j hj⟩ (fun hx => hg ⟨hk2,hx.2.2.2.trans hexp.symm⟩) hge eqq eid hack hoD
   ·have hlog:=hq1 (fun x => hk2 x.1)
    rw [hts] at hlog
    have hcur:Cur K s S l Y:=hc.move hli hphY hkY (by rw [eo]) ⟨[],by rw [hlog,List.append_nil],fun x hx => by cases hx⟩
    refine ⟨hcur,?_⟩
    have hge:gotN K s Y = gotN K s X:=by unfold gotN; rw [hlog]
    refine .ack (fun j hj => hk2 hj.2.1) hge (fun b _ hb => ?_) (by rw [eqq]; exact Nat.le_refl _) (.inl eid) ?_ (fun g hg i hi => absurd hi (hoD g hg i))
    ·have:=hb.1; omega
    ·have:hiN S s Y - hiN S s X = 0:=by unfold hiN; rw [eqq]; omega
     rw [this]; exact seq_zero _ _
end Go.Proofs.Ytnkkgofpifhoeaa.Pr
end
section
namespace Go.Proofs.Ytnkkgofpifhoeaa.Pr
open Go.Proofs.Ytnkkgofpifhoeaa.Lk
section
variable {K:Key} {s:Nat} {S:List (List Int)} {l:List Ent}
structure Del (K:Key) (s:Nat) (S:List (List Int)) (X Y:Pr) (f:Fl) (R E:List Fl):Prop where
 eff:Eff K s S X Y f
 lo:loN S s X ≤ gotN K s X
 hi:gotN K s X ≤ hiN S s X
 lo':loN S s Y ≤ gotN K s Y
 hi':gotN K s Y ≤ hiN S s Y
 idle:0 ≤ (X.en s).idle ∧ (X.en s).idle ≤ 2
 idle':0 ≤ (Y.en s).idle ∧ (Y.en s).idle ≤ 2
 q:qN s X ≤ S.length
 s2:s < 2
def Fol (K:Key) (s:Nat) (S:List (List Int)) (X:Pr) (l:List Fl):Prop:=Seq (IsD K s) l (gotN K s X) (hiN S s X - gotN K s X)
def Tel (K:Key) (s:Nat) (S:List (List Int)) (X:Pr) (R E:List Fl):Prop:=loN S s X = gotN K s X ∨ (∃ f ∈ R ++ E,IsA K s (gotN K s X) f) ∨ ∃ f ∈ R,∃ j,IsD K s j f
def Jh (K:Key) (s:Nat) (S:List (List Int)) (h:Nat) (X:Pr) (l:List Fl):Prop:=h ≤ hiN S s X ∧ (h ≤ gotN K s X → Fol K s S X l) ∧ (gotN K s X < h → ∀ f ∈ l,∀ j,IsD K s j f → h ≤ j)
section
variable {X Y:Pr} {f:Fl} {R E:List Fl} (h:Del K s S X Y f R E)
include h
theorem Del.q_le:qN s Y ≤ qN s X:=by
 cases h.eff with
 | next _ _ hq _ _ _ => omega
 | dup _ _ _ hq _ _ _ => omega
 | ack _ _ _ hq _ _ _ => exact hq
theorem Del.hi_le:hiN S s X ≤ hiN S s Y:=by have:=h.q_le; unfold hiN; omega
theorem Del.lo_le:loN S s X ≤ loN S s Y:=by have:=h.q_le; unfold loN; omega
theorem Del.got_le:gotN K s X ≤ gotN K s Y:=by
 cases h.eff with
 | next _ he _ _ _ _ => omega
 | dup _ _ he _ _ _ _ => omega
 | ack _ he _ _ _ _ _ => omega
theorem Del.fol (hf:Fol K s S X ((f :: R) ++ E)):Fol K s S Y (R ++ (E ++ tkOut X f)):=by
 unfold Fol at *
 rw [← List.append_assoc]
 have h1:=h.hi
 cases h.eff with
 | next hd he hq hi ha hn =>
  have e:hiN S s Y = hiN S s X:=by unfold hiN; rw [hq]
  rw [he,e,show hiN S s X - (gotN K s X + 1) = hiN S s X - gotN K s X - 1 by omega]
  exact seq_app (seq_take hf)
 | dup hd hg he hq hi ha hn =>
  have e:hiN S s Y = hiN S s X:=by unfold hiN; rw [hq]
  rw [he,e]
  exact seq_app (seq_head hf hg)
 | ack hd he hb hq hi hs hn =>
  have:=h.hi_le
  rw [he,show hiN S s Y - gotN K s X = (hiN S s X - gotN K s X) + (hiN S s Y - hiN S s X) by omega]
  refine seq_join (seq_head hf (hd _)) ?_
  rw [show gotN K s X + (hiN S s X - gotN K s X) = hiN S s X by omega]
  exact hs
theorem Del.tel (hf:Tel K s S X (f :: R) E):Tel K s S Y R (E ++ tkOut X f):=by
 unfold Tel at *
 have h1:=h.lo; have h2:=h.lo'; have h3:=h.lo_le
 cases h.eff with
 | next hd he hq hi ha hn =>
  obtain ⟨g,hg,hx⟩:=ha
  exact .inr (.inl ⟨g,by simp [hg],hx⟩)
 | dup hd hg he hq hi ha hn =>
  obtain ⟨g,hg,hx⟩:=ha
  exact .inr (.inl ⟨g,by simp [hg],hx⟩)
 | ack hd he hb hq hi hs hn =>
  rw [he]
  rcases hf with hf | ⟨g,hg,hx⟩ | ⟨g,hg,j,hx⟩
  ·left; omega
  ·rw [List.cons_append,List.mem_cons] at hg
   rcases hg with rfl | hg
   ·left
    have:=hb _ (Nat.le_refl _) hx
    omega
   ·refine .inr (.inl ⟨g,?_,hx⟩)
    rw [← List.append_assoc]
    exact List.mem_append.2 (.inl hg)
  ·rcases List.mem_cons.1 hg with rfl | hg
   ·exact absurd hx (hd j)
   ·exact .inr (.inr ⟨g,hg,j,hx⟩)
theorem Del.jh {m:Nat} (hf:Jh K s S m X ((f :: R) ++ E)):Jh K s S m Y (R ++ (E ++ tkOut X f)):=by
 obtain ⟨j1,j2,j3⟩:=hf
 have hh:=h.hi_le
 refine ⟨by omega,fun hm => ?_,fun hm g hg j hj => ?_⟩
 ·by_cases hx:m ≤ gotN K s X
  ·exact h.fol (j2 hx)
  ·exfalso
   cases h.eff with
   | next hd he hq hi ha hn =>
    have:=j3 (by omega) f (by simp) _ hd
    omega
   | dup hd hg he hq hi ha hn => omega
   | ack hd he hb hq hi hs hn => omega
 ·have hx:gotN K s X < m:=by have:=h.got_le; omega
  rw [← List.append_assoc] at hg
  rcases List.mem_append.1 hg with hg | hg
  ·exact j3 hx g (by rw [List.cons_append]; exact List.mem_cons_of_mem _ hg) j hj
  ·cases h.eff with
   | next hd he hq hi ha hn => exact absurd hj (hn g hg j)
   | dup hd hg' he hq hi ha hn => exact absurd hj (hn g hg j)
   | ack hd he hb hq hi hs hn => have:=hn g hg j hj; omega
theorem Del.new_ {m:Nat} (hf:m ≤ hiN S s X ∧ Seq (IsD K s) E m (hiN S s X - m) ∧ ∀ g ∈ E,∀ j,IsD K s j g → m ≤ j):m ≤ hiN S s Y ∧ Seq (IsD K s) (E ++ tkOut X f) m (hiN S s Y - m) ∧ ∀ g ∈ E ++ tkOut X f,∀ j,IsD K s j g → m ≤ j:=by
 obtain ⟨j1,j2,j3⟩:=hf
 have hh:=h.hi_le
 refine ⟨by omega,?_,fun g hg j hj => ?_⟩
 ·cases h.eff with
  | next hd he hq hi ha hn =>
   have e:hiN S s Y = hiN S s X:=by unfold hiN; rw [hq]
   rw [e]; exact seq_app j2
  | dup hd hg' he hq hi ha hn =>
   have e:hiN S s Y = hiN S s X:=by unfold hiN; rw [hq]
   rw [e]; exact seq_app j2
  | ack hd he hb hq hi hs hn =>
   rw [show hiN S s Y - m = (hiN S s X - m) + (hiN S s Y - hiN S s X) by omega]
   refine seq_join j2 ?_
   rw [show m + (hiN S s X - m) = hiN S s X by omega]; exact hs
 ·rcases List.mem_append.1 hg with hg | hg
  ·exact j3 g hg j hj
  ·cases h.eff with
   | next hd he hq hi ha hn => exact absurd hj (hn g hg j)
   | dup hd hg' he hq hi ha hn => exact absurd hj (hn g hg j)
   | ack hd he hb hq hi hs hn => have:=hn g hg j hj; omega
theorem Del.reach {m:Nat} (hf:Seq (IsD K s) (f :: R) (gotN K s X) (m - gotN K s X)):Seq (IsD K s) R (gotN K s Y) (m - gotN K s Y):=by
 cases h.eff with
 | next hd he hq hi ha hn =>
  rw [he,show m - (gotN K s X + 1) = m - gotN K s X - 1 by omega]
  exact seq_take hf
 | dup hd hg he hq hi ha hn => rw [he]; exact seq_head hf hg
 | ack hd he hb hq hi hs hn => rw [he]; exact seq_head hf (hd _)
theorem Del.told {m:Nat} (hf:m ≤ loN S s X ∨ ∃ g ∈ f :: R,∃ b,m ≤ b ∧ b ≤ gotN K s X ∧ IsA K s b g):m ≤ loN S s Y ∨ ∃ g ∈ R,∃ b,m ≤ b ∧ b ≤ gotN K s Y ∧ IsA K s b g:=by
 have h3:=h.lo_le; have h4:=h.got_le
 rcases hf with hf | ⟨g,hg,b,hb1,hb2,hx⟩
 ·left; omega
 ·rcases List.mem_cons.1 hg with rfl | hg
  ·cases h.eff with
   | next hd he hq hi ha hn => exfalso; have e1:=hd.1; have e2:=hx.1; have:=h.s2; omega
   | dup hd hg he hq hi ha hn => exfalso; obtain ⟨j,hd⟩:=hd; have e1:=hd.1; have e2:=hx.1; have:=h.s2; omega
   | ack hd he hb hq hi hs hn => have:=hb b hb2 hx; left; omega
  ·exact .inr ⟨g,hg,b,hb1,by omega,hx⟩
theorem Del.slow {m c e0:Nat} {cI:Int} (hf:(m ≤ gotN K s X ∧ Tel K s S X (f :: R) E) ∨ (gotN K s X = e0 ∧ (∀ g ∈ f :: R,¬ IsD K s e0 g) ∧ cI ≤ 3 * (loN S s X:Int) + (X.en s).idle)) :
  (m ≤ gotN K s Y ∧ Tel K s S Y R (E ++ tkOut X f)) ∨ (gotN K s Y = e0 ∧ (∀ g ∈ R,¬ IsD K s e0 g) ∧ cI ≤ 3 * (loN S s Y:Int) + (Y.en s).idle):=by
 have h4:=h.got_le
 rcases hf with ⟨h1,h2⟩ | ⟨h1,h2,h3⟩
 ·exact .inl ⟨by omega,h.tel h2⟩
 ·right
  have hlo:=h.lo_le
  have hq:=h.q
  have hid:=h.idle; have hid':=h.idle'
  refine ⟨?_,fun g hg => h2 g (List.mem_cons_of_mem _ hg),?_⟩
  ·cases h.eff with
   | next hd he hq hi ha hn => rw [h1] at hd; exact absurd hd (h2 f List.mem_cons_self)
   | dup hd hg he hq hi ha hn => omega
   | ack hd he hb hq hi hs hn => omega
  ·cases h.eff with
   | next hd he hq hi ha hn => rw [h1] at hd; exact absurd hd (h2 f List.mem_cons_self)
   | dup hd hg he hq hi ha hn => rw [hi]; omega
   | ack hd he hb hq hi hs hn =>
    rcases hi with hi | hi
    ·rw [hi]; omega
    ·have e1:loN S s X = S.length - qN s X:=rfl
     have e2:loN S s Y = S.length - qN s Y:=rfl
     omega
end
end
end Go.Proofs.Ytnkkgofpifhoeaa.Pr
end
section
namespace Go.Proofs.Ytnkkgofpifhoeaa.Pr
open Go.Proofs.Ytnkkgofpifhoeaa.Lk
theorem tick_two {L:Lk} (hw:Wn L) (ho:L.out = []) (h2:L.phase = 2) (hq:0 < L.queue.length):tick_ L = rest_ L (L.idle + 1) ∨ (tick_ L).out = (List.range' 0 (min 8 L.queue.length)).map (fun i:Nat => dataP (tick_ L) (i:Int)):=by
 have hf:=hw.full
 have hi:=hw.idle
 have h0:¬ L.phase = 0:=by omega
 have hs:¬ (L.phase = 2 ∧ L.sent = 0):=fun x => by have:=x.2; omega
 unfold tick_
 rw [if_neg h0,if_neg hs]
 split
 ·exact .inl rfl
 ·right
  rw [if_neg (by omega:¬ L.phase = 1)]
  have e:(rest_ L 0).sent.toNat = min 8 L.queue.length:=by show L.sent.toNat = _; rw [hf]; rfl
  show (sends (L.sent.toNat) (rest_ L 0)).out = _
  rw [show L.sent.toNat = min 8 L.queue.length from e,sends_out _ (by show L.out.length + _ ≤ 1024; rw [ho]; simp only [List.length_nil]; omega)]
  show L.out ++ _ = _
  rw [ho,List.nil_append,List.range_eq_range']
  exact List.map_congr_left (fun i _ => (data_same (sends_same _ _) _).symm)
theorem tick_len {L:Lk} (hok:L.Ok) (hw:Wn L) (ho:L.out = []):(tick_ L).out.length ≤ 8:=by
 rcases tick_out hok hw ho with ⟨h,_⟩ | ⟨_,_,h⟩ | ⟨_,_,_,h⟩
 ·rw [h]; decide
 ·rw [h]; simp
 ·rw [h,List.length_map,List.length_range]; omega
section
variable {K:Key} {s:Nat} {S:List (List Int)} {l:List Ent}
structure TkE (K:Key) (s:Nat) (S:List (List Int)) (X Y:Pr) (u:Nat) (new:List Fl):Prop where
 way:Y.way = X.way ++ new
 q:qN s Y = qN s X
 got:gotN K s Y = gotN K s X
 oth:u ≠ s → (Y.en s).idle = (X.en s).idle ∧ ∀ g ∈ new,∀ j,¬ IsD K s j g
 own:u = s → 0 < qN s X → ((Y.en s).idle = (X.en s).idle + 1 ∧ new = []) ∨ Seq (IsD K s) new (loN S s X) (hiN S s X - loN S s X)
theorem tick_eff {X:Pr} {N:Nat} (hr:RI X N) (hN:N < 4294967295) (hc:Cur K s S l X) {u:Nat} (hu:u < 2) (hroom:X.way.length + 8 ≤ 1024):Cur K s S l (doX X ⟨4,(u:Int),0,[]⟩) ∧ ∃ new,TkE K s S X (doX X ⟨4,(u:Int),0,[]⟩) u new:=by
 have hT:=ti_do hr.inv hu
 have hli:=do_linv hr hc.li hN ⟨4,(u:Int),0,[]⟩
 generalize doX X ⟨4,(u:Int),0,[]⟩ = Y at *
 have hs:=hc.s2
 have hd:=hr.inv.p.side u hu
 have ho:=hr.inv.out u hu
 have hwn:=hr.wn u hu
 obtain ⟨hsame,_⟩:=tick_turn hd.fine.ok ho hd.fine.idleq
 have hlen:=tick_len hd.fine.ok hwn ho
 have hS:∀ t,t < 2 → Same (X.en t) (Y.en t) ∧ (Y.sd t).log = (X.sd t).log:=fun t ht => by
  by_cases hts:t = u
  ·subst hts
   unfold Pr.en
   rw [hT.sd]
   exact ⟨hsame.trans (out_same _),rfl⟩
  ·unfold Pr.en
   rw [hT.ne t hts]
   exact ⟨Same.refl _,rfl⟩
 have e1:=hS s hs
 have e2:=hS (1 - s) (by omega)
 refine ⟨hc.move hli (fun t ht => (hS t ht).1.phase) (fun t ht => keyL_same (hS t ht).1) (by rw [e1.2]) ⟨[],by rw [e2.2,List.append_nil],fun x hx => by cases hx⟩,(tick_ (X.en u)).out.map (fun p => (⟨1 - (u:Int),(X.sd u).boot,p⟩:Fl)),?_,by unfold qN; rw [e1.1.queue],by unfold gotN; rw [e2.2],fun hus => ?_,fun hus hq => ?_⟩
 ·rw [hT.way,List.take_of_length_le]
  rw [List.length_append,List.length_map]
  unfold Pr.en; omega
 ·refine ⟨by unfold Pr.en; rw [hT.ne s (fun x => hus x.symm)],fun g hg j hj => ?_⟩
  obtain ⟨p,_,rfl⟩:=List.mem_map.1 hg
  have:1 - (u:Int) = ((1 - s:Nat):Int):=hj.1
  omega
 ·subst hus
  have hB:=bnd_of hr hc
  have h2:(X.en u).phase = 2:=jn_any hc.jn hs
  rcases tick_two hwn ho h2 hq with h | h
  ·left
   refine ⟨?_,?_⟩
   ·unfold Pr.en; rw [hT.sd]
    show (tick_ (X.en u)).idle = _
    rw [h]; rfl
   ·rw [h]
    show (X.en u).out.map _ = []
    rw [show (X.en u).out = [] from ho]; rfl
  ·right
   rw [h,List.map_map]
   have e:hiN S u X - loN S u X = min 8 (qN u X):=by have:=hB.q; unfold hiN loN; omega
   rw [e]
   refine seq_map _ (fun i hi => ?_)
   rw [Nat.zero_add]
   refine ⟨by show 1 - (u:Int) = _; omega,rfl,?_,?_⟩
   ·rw [← hc.k,← keyL_same hsame]
    show ((X.sd u).boot,_,_,_) = _
    unfold keyL
    rw [hsame.own,hd.boot]; rfl
   ·show IntKind.u32.wrap ((tick_ (X.en u)).base + IntKind.u32.wrap (i:Int)) = _
    rw [hsame.base,show (X.sd u).end_.base = sn (loN S u X) from hB.base,sn_addw]
structure Rd (K:Key) (s:Nat) (S:List (List Int)) (l:List Ent) (k:Nat) (X:Pr):Prop where
 rk:RK k X
 rm:Rm X 428 172 188
 cur:Cur K s S l X
theorem Cur.live {X:Pr} (h:Cur K s S l X):Live X:=fun t ht => by rw [jn_any h.jn ht]; decide
theorem tick2 {k:Nat} {X:Pr} (h:Rd K s S l (k + 1) X):Cur K s S l (tkX X) ∧ (∃ M,M + 1024 < 4294967295 ∧ RI (tkX X) M) ∧ (tkX X).way.length + 112 ≤ 1024 ∧ ∃ new,(tkX X).way = X.way ++ new ∧ qN s (tkX X) = qN s X ∧ gotN K s (tkX X) = gotN K s X ∧
  (0 < qN s X → ((tkX X).en s).idle = (X.en s).idle + 1 ∧ (∀ g ∈ new,∀ j,¬ IsD K s j g) ∨ Seq (IsD K s) new (loN S s X) (hiN S s X - loN S s X)):=by
 obtain ⟨_,N,hN,hr⟩:=h.rk
 have hN':N + 1026 < 4294967295:=by omega
 have hlx:=h.rm.len hr
 obtain ⟨hr2,hT⟩:=hr.tk (by omega)
 obtain ⟨r1,r2,_⟩:=h.rm.tk hT
 have hl2:=r1.len hr2
 obtain ⟨M,hM,hri⟩:=hr
 obtain ⟨c1,n1,t1⟩:=tick_eff hri (by omega) h.cur (u:=0) (by decide) (by omega)
 have hri1:=ri_do hri (by omega) ⟨4,((0:Nat):Int),0,[]⟩
 have hlz:=r2.len (X:=doX X ⟨4,0,0,[]⟩) ⟨M + 1,Nat.le_refl _,hri1⟩
 obtain ⟨c2,n2,t2⟩:=tick_eff (X:=doX X ⟨4,0,0,[]⟩) hri1 (by omega) c1 (u:=1) (by decide) (by show (doX X ⟨4,0,0,[]⟩).way.length + 8 ≤ _; omega)
 have hri2:=ri_do hri1 (by omega) ⟨4,((1:Nat):Int),0,[]⟩
 refine ⟨c2,⟨M + 1 + 1,by omega,hri2⟩,by omega,n1 ++ n2,?_,?_,?_,?_⟩
 ·have e1:=t1.way; have e2:=t2.way
  show (doX (doX X ⟨4,0,0,[]⟩) ⟨4,1,0,[]⟩).way = _
  exact e2.trans (by rw [← List.append_assoc]; exact congrArg (· ++ n2) e1)
 ·exact t2.q.trans t1.q
 ·exact t2.got.trans t1.got
 ·intro hq
  have hs:=h.cur.s2
  have h0:s = 0 ∨ s = 1:=by omega
  rcases h0 with h0 | h0
  ·have o1:=t1.own h0.symm hq
   have o2:=t2.oth (by omega)
   rcases o1 with o1 | o1
   ·left
    refine ⟨o2.1.trans o1.1,fun g hg => ?_⟩
    rw [o1.2,List.nil_append] at hg
    exact o2.2 g hg
   ·exact .inr (seq_app o1)
  ·have o1:=t1.oth (by omega)
   have o2:=t2.own h0.symm (by rw [show qN s (doX X ⟨4,0,0,[]⟩) = qN s X from t1.q]; exact hq)
   have eid:((doX X ⟨4,0,0,[]⟩).en s).idle = (X.en s).idle:=o1.1
   have el:loN S s (doX X ⟨4,0,0,[]⟩) = loN S s X:=by unfold loN; rw [show qN s (doX X ⟨4,0,0,[]⟩) = qN s X from t1.q]
   have eh:hiN S s (doX X ⟨4,0,0,[]⟩) = hiN S s X:=by unfold hiN; rw [show qN s (doX X ⟨4,0,0,[]⟩) = qN s X from t1.q]
   rcases o2 with o2 | o2
   ·left
    refine ⟨o2.1.trans (by rw [eid]),fun g hg => ?_⟩
    rw [o2.2,List.append_nil] at hg
    exact o1.2 g hg
   ·right
    have o2':Seq (IsD K s) n2 (loN S s X) (hiN S s X - loN S s X):=by rw [← el,← eh]; exact o2
    exact seq_pre o2' _
theorem del_cur {P:Pr → List Fl → List Fl → Prop} {hh dd mm:Nat} (hm:mm ≤ 1024) (step:∀ (X:Pr) (f:Fl) (R E:List Fl),Del K s S X (hdX X) f R E → P X (f :: R) E → P (hdX X) R (E ++ tkOut X f)) :
  ∀ (R E:List Fl) (X:Pr) (N:Nat),N + R.length < 4294967295 → RI X N → Cur K s S l X → X.way = R ++ E → Cn X R E hh dd mm → P X R E → Cur K s S l (delN R.length X) ∧ P (delN R.length X) [] (delN R.length X).way:=by
 intro R
 induction R with
 | nil =>
  intro E X N hN hr hc hw hcn hP
  refine ⟨hc,?_⟩
  show P X [] X.way
  rw [hw]; exact hP
 | cons f R ih =>
  intro E X N hN hr hc hw hcn hP
  simp only [List.length_cons] at hN
  have hl:=hc.live
  have hd:=hd_do hr.inv (f:=f) (rest:=R ++ E) (by rw [hw]; rfl)
  have hlen:R.length ≤ 1024:=by have:=hr.inv.p.way; rw [hw] at this; simp only [List.length_append,List.length_cons] at this; omega
  have hway:(hdX X).way = R ++ (E ++ tkOut X f).take (1024 - R.length):=by
   rw [hd.way,List.append_assoc,List.take_append,List.take_of_length_le hlen]
  have hst:=step_of hr (by omega) hl (f:=f) (rest:=R ++ E) (by rw [hw]; rfl) hd
  have hD:Dl X (hdX X) f R E ((E ++ tkOut X f).take (1024 - R.length)) N:=⟨hr,by omega,hl,by rw [hw]; rfl,hd,hst,rfl⟩
  have hfull:=hD.full hcn hm
  have hcn':=hD.cn hcn
  rw [hfull] at hcn' hway
  obtain ⟨hc',he⟩:=eff_of hD hc
  have hri':=ri_do hr (by omega) hdA
  have hB:=bnd_of hr hc
  have hB':=bnd_of (X:=hdX X) hri' hc'
  have hDel:Del K s S X (hdX X) f R E:=⟨he,hB.lo,hB.hi,hB'.lo,hB'.hi,(hr.wn s hc.s2).idle,(hri'.wn s hc.s2).idle,hB.q,hc.s2⟩
  exact ih _ (hdX X) (N + 1) (by omega) hri' hc' hway hcn' (step X f R E hDel hP)
theorem round_cur {P:Pr → List Fl → List Fl → Prop} {k:Nat} {X:Pr} (h:Rd K s S l (k + 1) X) (step:∀ (X:Pr) (f:Fl) (R E:List Fl),Del K s S X (hdX X) f R E → P X (f :: R) E → P (hdX X) R (E ++ tkOut X f)) (start:P (tkX X) (tkX X).way []) :
  Rd K s S l k (roundX X) ∧ P (roundX X) [] (roundX X).way:=by
 obtain ⟨hc,⟨M,hM,hri⟩,hlen,_⟩:=tick2 h
 have hlw:=hri.inv.p.way
 obtain ⟨c1,p1⟩:=del_cur (P:=P) (hh:=cnt 1 (tkX X).way) (dd:=cnt 2 (tkX X).way) (mm:=(tkX X).way.length + 112) (by omega) step (tkX X).way [] (tkX X) M (by omega) hri hc (by simp) (cn_start hri) start
 refine ⟨⟨h.rk.round,?_,c1⟩,p1⟩
 have:=(h.rk.rm h.rm).2 h.cur.jn
 exact ⟨this.h,Nat.le_trans this.d (by decide),Nat.le_trans this.a (by decide)⟩
theorem Rd.bnd {k:Nat} {X:Pr} (h:Rd K s S l k X):∃ N,N < 4294967295 ∧ RI X N ∧ Bnd K s S X N:=by
 obtain ⟨N,hN,hr⟩:=h.rk.ri
 exact ⟨N,hN,hr,bnd_of hr h.cur⟩
theorem Rd.round {k:Nat} {X:Pr} (h:Rd K s S l (k + 1) X):Rd K s S l k (roundX X) ∧ qN s (roundX X) ≤ qN s X:=by
 obtain ⟨_,_,_,new,_,hq,_⟩:=tick2 h
 obtain ⟨a,b⟩:=round_cur (P:=fun Z _ _ => qN s Z ≤ qN s X) h (fun Z f R E hd hp => Nat.le_trans hd.q_le hp) (by rw [hq]; exact Nat.le_refl _)
 exact ⟨a,b⟩
theorem Rd.rounds {k:Nat} (n:Nat):∀ {X:Pr},Rd K s S l (k + n) X → Rd K s S l k (rounds n X) ∧ qN s (rounds n X) ≤ qN s X:=by
 induction n with
 | zero => exact fun h => ⟨h,Nat.le_refl _⟩
 | succ n ih =>
  intro X h
  obtain ⟨a,b⟩:=Rd.round (k:=k + n) h
  obtain ⟨c,d⟩:=ih a
  exact ⟨c,Nat.le_trans d b⟩
def GoodX (K:Key) (s:Nat) (S:List (List Int)) (X:Pr):Prop:=Fol K s S X X.way ∧ (loN S s X = gotN K s X ∨ ∃ f ∈ X.way,IsA K s (gotN K s X) f)
theorem good_end {X:Pr} (h1:Fol K s S X ([] ++ X.way)) (h2:Tel K s S X [] X.way):GoodX K s S X:=by
 refine ⟨h1,?_⟩
 rcases h2 with h2 | ⟨f,hf,hx⟩ | ⟨f,hf,_⟩
 ·exact .inl h2
 ·exact .inr ⟨f,hf,hx⟩
 ·cases hf
theorem first_round {k:Nat} {X:Pr} (h:Rd K s S l (k + 1) X):Rd K s S l k (roundX X) ∧ ∃ m,Jh K s S m (roundX X) (roundX X).way:=by
 obtain ⟨a,b⟩:=round_cur (P:=fun Z _ E => hiN S s (tkX X) ≤ hiN S s Z ∧ Seq (IsD K s) E (hiN S s (tkX X)) (hiN S s Z - hiN S s (tkX X)) ∧ ∀ g ∈ E,∀ j,IsD K s j g → hiN S s (tkX X) ≤ j) h (fun Z f R E hd hp => hd.new_ hp) ⟨Nat.le_refl _,by rw [Nat.sub_self]; exact rfl,fun g hg => by cases hg⟩
 refine ⟨a,hiN S s (tkX X),b.1,fun hm => ?_,fun _ => b.2.2⟩
 have:=seq_drop (gotN K s (roundX X) - hiN S s (tkX X)) b.2.1
 unfold Fol
 rwa [show hiN S s (tkX X) + (gotN K s (roundX X) - hiN S s (tkX X)) = gotN K s (roundX X) by omega,show hiN S s (roundX X) - hiN S s (tkX X) - (gotN K s (roundX X) - hiN S s (tkX X)) = hiN S s (roundX X) - gotN K s (roundX X) by omega] at this
theorem loN_eq {X Y:Pr} (h:qN s Y = qN s X):loN S s Y = loN S s X ∧ hiN S s Y = hiN S s X:=by unfold loN hiN; rw [h]; exact ⟨rfl,rfl⟩
theorem bad_round {k m e0:Nat} {cI:Int} {X:Pr} (h:Rd K s S l (k + 1) X) (hj:Jh K s S m X X.way) (he:gotN K s X = e0) (hc:cI ≤ 3 * (loN S s X:Int) + (X.en s).idle) (hq0:0 < qN s X) :
  GoodX K s S (roundX X) ∨ (Jh K s S m (roundX X) (roundX X).way ∧ gotN K s (roundX X) = e0 ∧ cI + 1 ≤ 3 * (loN S s (roundX X):Int) + ((roundX X).en s).idle):=by
 obtain ⟨N,hN,hri,hB⟩:=h.bnd
 obtain ⟨hcur,_,_,new,hw,hq,hg,hn⟩:=tick2 h
 obtain ⟨el,eh⟩:=loN_eq (S:=S) hq
 have b1:=hB.lo; have b2:=hB.hi; have b3:=hB.q
 rcases hn hq0 with ⟨hid,hnd⟩ | hsq
 ·
  have hjt:Jh K s S m (tkX X) (tkX X).way:=by
   obtain ⟨j1,j2,j3⟩:=hj
   refine ⟨by rw [eh]; exact j1,fun hm => ?_,fun hm g hgm j hjd => ?_⟩
   ·rw [hg] at hm
    have:=j2 hm
    unfold Fol at this ⊢
    rw [hg,eh,hw]
    exact seq_app this
   ·rw [hg] at hm
    rw [hw] at hgm
    rcases List.mem_append.1 hgm with hgm | hgm
    ·exact j3 hm g hgm j hjd
    ·exact absurd hjd (hnd g hgm j)
  obtain ⟨_,p1,p2⟩:=round_cur (P:=fun Z R E => Jh K s S m Z (R ++ E) ∧ ((m ≤ gotN K s Z ∧ Tel K s S Z R E) ∨ (gotN K s Z = e0 ∧ (∀ g ∈ R,¬ IsD K s e0 g) ∧ cI + 1 ≤ 3 * (loN S s Z:Int) + (Z.en s).idle))) h
   (fun Z f R E hd hp => ⟨hd.jh hp.1,hd.slow (c:=0) hp.2⟩) ⟨by rw [List.append_nil]; exact hjt,by
    by_cases hT:m ≤ gotN K s (tkX X) ∧ Tel K s S (tkX X) (tkX X).way []
    ·exact .inl hT
    ·right
     refine ⟨by rw [hg,he],fun g hgm hgd => ?_,by rw [el,hid]; omega⟩
     by_cases hm:m ≤ gotN K s (tkX X)
     ·exact hT ⟨hm,.inr (.inr ⟨g,hgm,e0,hgd⟩)⟩
     ·have:=hjt.2.2 (by omega) g hgm e0 hgd
      rw [hg,he] at hm; omega⟩
  rcases p2 with ⟨p2,p3⟩ | ⟨p2,_,p3⟩
  ·exact .inl (good_end (p1.2.1 p2) p3)
  ·exact .inr ⟨p1,p2,p3⟩
 ·
  left
  have hs0:0 < hiN S s X - loN S s X:=by unfold hiN loN; omega
  have hfol:Fol K s S (tkX X) (tkX X).way:=by
   have:=seq_drop (gotN K s X - loN S s X) hsq
   rw [show loN S s X + (gotN K s X - loN S s X) = gotN K s X by omega,show hiN S s X - loN S s X - (gotN K s X - loN S s X) = hiN S s X - gotN K s X by omega] at this
   unfold Fol
   rw [hg,eh,hw]
   exact seq_pre this _
  obtain ⟨g,hgm,hgd⟩:=seq_mem hsq hs0
  obtain ⟨_,p1,p2⟩:=round_cur (P:=fun Z R E => Fol K s S Z (R ++ E) ∧ Tel K s S Z R E) h (fun Z f R E hd hp => ⟨hd.fol hp.1,hd.tel hp.2⟩) ⟨by rw [List.append_nil]; exact hfol,.inr (.inr ⟨g,by rw [hw]; exact List.mem_append.2 (.inr hgm),_,hgd⟩)⟩
  exact good_end p1 p2
theorem good_tick {k:Nat} {X:Pr} (h:Rd K s S l (k + 1) X) (hg:GoodX K s S X):Fol K s S (tkX X) (tkX X).way ∧ Tel K s S (tkX X) (tkX X).way [] ∧ hiN S s (tkX X) = hiN S s X ∧ gotN K s (tkX X) = gotN K s X ∧ (loN S s X = gotN K s X ∨ ∃ f ∈ (tkX X).way,IsA K s (gotN K s X) f) ∧ loN S s (tkX X) = loN S s X:=by
 obtain ⟨hcur,_,_,new,hw,hq,hgt,hn⟩:=tick2 h
 obtain ⟨el,eh⟩:=loN_eq (S:=S) hq
 obtain ⟨g1,g2⟩:=hg
 have g2':loN S s X = gotN K s X ∨ ∃ f ∈ (tkX X).way,IsA K s (gotN K s X) f:=by
  rcases g2 with g2 | ⟨f,hf,hx⟩
  ·exact .inl g2
  ·exact .inr ⟨f,by rw [hw]; exact List.mem_append.2 (.inl hf),hx⟩
 refine ⟨?_,?_,eh,hgt,g2',el⟩
 ·unfold Fol at g1 ⊢
  rw [hgt,eh,hw]; exact seq_app g1
 ·unfold Tel
  rw [el,hgt,List.append_nil]
  exact g2'.elim .inl (fun x => .inr (.inl x))
theorem good_two' {k m:Nat} {X:Pr} (h:Rd K s S l (k + 1) X) (hg:GoodX K s S X) (hm:m ≤ gotN K s X):Rd K s S l k (roundX X) ∧ GoodX K s S (roundX X) ∧ m ≤ loN S s (roundX X):=by
 obtain ⟨u1,u2,u3,u4,u5,u6⟩:=good_tick (k:=k) h hg
 have st:m ≤ loN S s (tkX X) ∨ ∃ g ∈ (tkX X).way,∃ b,m ≤ b ∧ b ≤ gotN K s (tkX X) ∧ IsA K s b g:=by
  rcases u5 with u5 | ⟨f,hf,hx⟩
  ·left; omega
  ·exact .inr ⟨f,hf,gotN K s X,hm,by rw [u4]; exact Nat.le_refl _,hx⟩
 obtain ⟨r2,q1,q2,q3⟩:=round_cur (k:=k) (P:=fun Z R E => Fol K s S Z (R ++ E) ∧ Tel K s S Z R E ∧ (m ≤ loN S s Z ∨ ∃ g ∈ R,∃ b,m ≤ b ∧ b ≤ gotN K s Z ∧ IsA K s b g)) h (fun Z f R E hd hp => ⟨hd.fol hp.1,hd.tel hp.2.1,hd.told hp.2.2⟩) ⟨by rw [List.append_nil]; exact u1,u2,st⟩
 refine ⟨r2,good_end q1 q2,?_⟩
 rcases q3 with q3 | ⟨g,hg,_⟩
 ·exact q3
 ·cases hg
theorem good_two {k:Nat} {X:Pr} (h:Rd K s S l (k + 2) X) (hg:GoodX K s S X):Rd K s S l k (rounds 2 X) ∧ GoodX K s S (rounds 2 X) ∧ qN s (rounds 2 X) ≤ qN s X - 8:=by
 obtain ⟨N,hN,hri,hB⟩:=h.bnd
 obtain ⟨t1,t2,t3,t4,t5,t6⟩:=good_tick (k:=k + 1) h hg
 obtain ⟨r1,p1,p2,p3⟩:=round_cur (k:=k + 1) (P:=fun Z R E => Fol K s S Z (R ++ E) ∧ Tel K s S Z R E ∧ Seq (IsD K s) R (gotN K s Z) (hiN S s X - gotN K s Z)) h (fun Z f R E hd hp => ⟨hd.fol hp.1,hd.tel hp.2.1,hd.reach hp.2.2⟩) ⟨by rw [List.append_nil]; exact t1,t2,by unfold Fol at t1; rw [t3] at t1; exact t1⟩
 have hm:hiN S s X ≤ gotN K s (roundX X):=by have:hiN S s X - gotN K s (roundX X) = 0:=p3; omega
 have g1:=good_end p1 p2
 clear p1 p2 p3 t1 t2 t3 t4 t5 t6 hg
 have b1:=hB.q
 have eh:hiN S s X = S.length - (qN s X - 8):=rfl
 generalize hiN S s X = m at *
 have key:=good_two' r1 g1 hm
 refine ⟨key.1,key.2.1,?_⟩
 obtain ⟨N2,_,_,hB2⟩:=key.1.bnd
 have b2:=hB2.q
 have b3:=key.2.2
 have b4:loN S s (roundX (roundX X)) = S.length - qN s (roundX (roundX X)):=rfl
 show qN s (roundX (roundX X)) ≤ _
 omega
theorem good_rounds (n:Nat):∀ {k:Nat} {X:Pr},Rd K s S l (k + 2 * n) X → GoodX K s S X → Rd K s S l k (rounds (2 * n) X) ∧ qN s (rounds (2 * n) X) ≤ qN s X - 8 * n:=by
 induction n with
 | zero => exact fun h _ => ⟨h,Nat.le_refl _⟩
 | succ n ih =>
  intro k X h hg
  obtain ⟨a,b,c⟩:=good_two (k:=k + 2 * n) h hg
  obtain ⟨d,e⟩:=ih a b
  rw [show 2 * (n + 1) = 2 + 2 * n by omega,rounds_add]
  exact ⟨d,by omega⟩
theorem bad_rounds (n:Nat):∀ {k m e0:Nat} {cI:Int} {X:Pr},Rd K s S l (k + n) X → Jh K s S m X X.way → gotN K s X = e0 → cI ≤ 3 * (loN S s X:Int) + (X.en s).idle → 3 * (e0:Int) + 2 < cI + n → ∃ i,i ≤ n ∧ (GoodX K s S (rounds i X) ∨ qN s (rounds i X) = 0):=by
 induction n with
 | zero =>
  intro k m e0 cI X h hj he hc hn
  exfalso
  obtain ⟨N,hN,hri,hB⟩:=h.bnd
  have:=(hri.wn s h.cur.s2).idle
  have:=hB.lo
  omega
 | succ n ih =>
  intro k m e0 cI X h hj he hc hn
  by_cases hq:qN s X = 0
  ·exact ⟨0,Nat.zero_le _,.inr hq⟩
  ·rcases bad_round (k:=k + n) h hj he hc (by omega) with hg | ⟨a,b,c⟩
   ·exact ⟨1,by omega,.inl hg⟩
   ·obtain ⟨i,hi,hx⟩:=ih (k:=k) (Rd.round (k:=k + n) h).1 a b c (by omega)
    exact ⟨i + 1,by omega,hx⟩
theorem drained {k:Nat} {X:Pr} (h:Rd K s S l (k + 44) X):Rd K s S l k (rounds 44 X) ∧ qN s (rounds 44 X) = 0:=by
 refine ⟨(Rd.rounds 44 h).1,?_⟩
 obtain ⟨r1,m,hj⟩:=first_round (k:=k + 43) h
 rw [show (44:Nat) = 1 + 43 from rfl,rounds_add]
 show qN s (rounds 43 (roundX X)) = 0
 generalize roundX X = Y at *
 obtain ⟨N,hN,hri,hB⟩:=r1.bnd
 have hid:=(hri.wn s r1.cur.s2).idle
 have b1:=hB.lo; have b2:=hB.hi; have b3:=hB.q
 have hql:qN s Y ≤ 64:=(hri.inv.p.side s r1.cur.s2).fine.ok.queue
 obtain ⟨i,hi,hx⟩:=bad_rounds (n:=27) (k:=k + 16) (m:=m) (e0:=gotN K s Y) (cI:=3 * (loN S s Y:Int)) (X:=Y) (by rw [show k + 16 + 27 = k + 43 by omega]; exact r1) hj rfl (by omega) (by
  have e1:loN S s Y = S.length - qN s Y:=rfl
  have e2:hiN S s Y = S.length - (qN s Y - 8):=rfl
  omega)
 have ri:=Rd.rounds (k:=k + (43 - i)) i (X:=Y) (by rw [show k + (43 - i) + i = k + 43 by omega]; exact r1)
 rw [show (43:Nat) = i + (43 - i) by omega,rounds_add]
 generalize rounds i Y = Z at *
 rcases hx with hg | hz
 ·rw [show 43 - i = 2 * 8 + (27 - i) by omega,rounds_add]
  obtain ⟨a,b⟩:=good_rounds 8 (k:=k + (27 - i)) (X:=Z) (by rw [show k + (27 - i) + 2 * 8 = k + (43 - i) by omega]; exact ri.1) hg
  have:=(Rd.rounds (k:=k) (27 - i) a).2
  omega
 ·have:=(Rd.rounds (k:=k) (43 - i) ri.1).2
  omega
end
end Go.Proofs.Ytnkkgofpifhoeaa.Pr
end
section
namespace Go.Proofs.Ytnkkgofpifhoeaa.Pr
open Go.Proofs.Ytnkkgofpifhoeaa.Lk
def hc (L:Lk):Nat:=L.out.countP (fun p => decide (p.kind = 1))
theorem hc_nil {L:Lk} (h:L.out = []):hc L = 0:=by unfold hc; rw [h]; rfl
theorem hc_data {L:Lk} {l:List Nat} {M:Lk} (h:L.out = l.map (fun i:Nat => dataP M (i:Int))):hc L = 0:=by
 unfold hc
 rw [h,List.countP_map,List.countP_eq_zero]
 intro i _
 simp [dataP]
theorem hc_one {L:Lk} {p:Pkt} (h:L.out = [p]):hc L ≤ 1:=by unfold hc; rw [h]; exact List.countP_le_length
theorem cnt_go (X:Pr) (s:Nat):cnt 1 (goX X s).way ≤ cnt 1 X.way + hc (X.en s):=by
 rw [go_way]
 refine Nat.le_trans (cnt_take _ _ _) ?_
 rw [cnt_append]
 refine Nat.add_le_add_left ?_ _
 unfold cnt hc
 rw [List.countP_map]; exact Nat.le_refl _
theorem hc_set {X:Pr} {N:Nat} (hI:Inv X N) {s:Nat} (hs:s < 2) {d:Sd} {n:Nat} (h:hc d.end_ ≤ n):cnt 1 (X.set s d).way + hc ((X.set s d).en 0) + hc ((X.set s d).en 1) ≤ cnt 1 X.way + n:=by
 have h0:s = 0 ∨ s = 1:=by omega
 rcases h0 with rfl | rfl
 ·rw [set_en,set_en' (by decide),hc_nil (hI.out 1 (by decide))]
  show cnt 1 X.way + _ + 0 ≤ _
  omega
 ·rw [set_en,set_en' (by decide),hc_nil (hI.out 0 (by decide))]
  show cnt 1 X.way + 0 + _ ≤ _
  omega
theorem hc_self {X:Pr} {N:Nat} (hI:Inv X N):cnt 1 X.way + hc (X.en 0) + hc (X.en 1) ≤ cnt 1 X.way + 1:=by
 rw [hc_nil (hI.out 0 (by decide)),hc_nil (hI.out 1 (by decide))]; omega
theorem act_hc {X:Pr} {N:Nat} (h:RI X N) {a:Act} (hb:badA X a = 0):cnt 1 (actX X a).way + hc ((actX X a).en 0) + hc ((actX X a).en 1) ≤ cnt 1 X.way + 1:=by
 have hI:=h.inv
 obtain ⟨hk,hsd,hi⟩:=badA_side hb
 have hside:a.kind < 6 → a.side.toNat < 2:=fun h => by have:=hsd h; omega
 unfold actX
 split
 ·have hs:=hside (by omega)
  generalize a.side.toNat = s at *
  refine hc_set hI hs (n:=1) ?_
  show hc (openL (X.sd s).end_) ≤ 1
  unfold openL
  split
  ·exact hc_one (p:=helloP (begin_ (X.sd s).end_)) (by rw [emit_out (by show (X.sd s).end_.out.length < 1024; rw [hI.out s hs]; decide)]; show (X.sd s).end_.out ++ _ = _; rw [hI.out s hs]; rfl)
  ·rw [hc_nil (hI.out s hs)]; omega
 split
 ·have hs:=hside (by omega)
  generalize a.side.toNat = s at *
  have he:(shutS (X.sd s)).end_ = shut_ (X.sd s).end_:=by unfold shutS; split <;> rfl
  refine hc_set hI hs (n:=1) ?_
  rw [he,hc_nil (show (shut_ (X.sd s).end_).out = [] from hI.out s hs)]; omega
 split
 ·have hs:=hside (by omega)
  generalize a.side.toNat = s at *
  have he:(sendS (X.sd s) a.body).end_ = sendL (X.sd s).end_ a.body:=by unfold sendS; split <;> rfl
  refine hc_set hI hs (n:=1) ?_
  rw [he]
  unfold sendL
  split
  ·obtain ⟨_,b,_⟩:=fill_eq (L:={ (X.sd s).end_ with queue:=(X.sd s).end_.queue ++ [a.body] }) (k:=min 8 (X.sd s).end_.queue.length) (h.wn s hs).full (by show _ ≤ min 8 ((X.sd s).end_.queue ++ [a.body]).length; rw [List.length_append]; omega) (hI.out s hs)
   rw [hc_data b]; omega
  ·rw [hc_nil (hI.out s hs)]; omega
 split
 ·have hs:=hside (by omega)
  generalize a.side.toNat = s at *
  refine hc_set hI hs (n:=1) ?_
  show hc (tick_ (X.sd s).end_) ≤ 1
  rcases tick_out (hI.p.side s hs).fine.ok (h.wn s hs) (hI.out s hs) with ⟨x,_⟩ | ⟨_,_,x⟩ | ⟨_,_,_,x⟩
  ·rw [hc_nil x]; omega
  ·exact hc_one x
  ·rw [hc_data x]; omega
 split
 ·have hs:=hside (by omega)
  generalize a.side.toNat = s at *
  refine hc_set hI hs (n:=1) ?_
  unfold rebootS
  split
  ·rw [hc_nil (hI.out s hs)]; omega
  ·rw [hc_nil (L:=newL ((X.sd s).boot + 1)) rfl]; omega
 split
 ·obtain ⟨hi0,hil⟩:=hi (by omega)
  have hmem:X.way.getD a.i.toNat nilF ∈ X.way:=by
   rw [List.getD_eq_getElem?_getD,List.getElem?_eq_getElem hil]
   exact List.getElem_mem hil
  have hf:=hI.p.fl _ hmem
  unfold deliverX
  generalize X.way.getD a.i.toNat nilF = f at *
  have hs:f.dst.toNat < 2:=by have:=hf.dst; omega
  have hx:=hc_set hI hs (d:=takeS (X.sd f.dst.toNat) (takeF (X.sd f.dst.toNat).end_ f.boot f.p)) (n:=1) (by
   rw [takeS_end]
   refine Nat.le_trans (out_count hI h.wn hmem).h ?_
   split <;> omega)
  have he:cnt 1 (X.way.eraseIdx a.i.toNat) ≤ cnt 1 X.way:=cnt_sub (List.eraseIdx_sublist _ _)
  have e1:cnt 1 (({ X with way:=X.way.eraseIdx a.i.toNat }:Pr).set f.dst.toNat (takeS (X.sd f.dst.toNat) (takeF (X.sd f.dst.toNat).end_ f.boot f.p))).way = cnt 1 (X.way.eraseIdx a.i.toNat):=rfl
  have e2:cnt 1 (X.set f.dst.toNat (takeS (X.sd f.dst.toNat) (takeF (X.sd f.dst.toNat).end_ f.boot f.p))).way = cnt 1 X.way:=rfl
  have e3:∀ t,(({ X with way:=X.way.eraseIdx a.i.toNat }:Pr).set f.dst.toNat (takeS (X.sd f.dst.toNat) (takeF (X.sd f.dst.toNat).end_ f.boot f.p))).en t = (X.set f.dst.toNat (takeS (X.sd f.dst.toNat) (takeF (X.sd f.dst.toNat).end_ f.boot f.p))).en t:=fun t => rfl
  rw [e1,e3,e3]
  rw [e2] at hx
  omega
 split
 ·have he:cnt 1 (X.way.eraseIdx a.i.toNat) ≤ cnt 1 X.way:=cnt_sub (List.eraseIdx_sublist _ _)
  have:=hc_self hI
  show cnt 1 (X.way.eraseIdx a.i.toNat) + hc (X.en 0) + hc (X.en 1) ≤ _
  omega
 ·have hen:∀ t,(putX X (X.way.getD a.i.toNat nilF)).en t = X.en t:=fun t => by unfold Pr.en; rw [putX_sd]
  rw [hen,hen,hc_nil (hI.out 0 (by decide)),hc_nil (hI.out 1 (by decide))]
  unfold putX
  split
  ·show cnt 1 (X.way ++ [_]) + 0 + 0 ≤ _
   rw [cnt_append,cnt_cons,cnt_nil]
   split <;> omega
  ·omega
theorem do_hc {X:Pr} {N:Nat} (h:RI X N) (hN:N < 4294967295) (a:Act):cnt 1 (doX X a).way ≤ cnt 1 X.way + 1:=by
 unfold doX
 split
 ·rename_i hb
  have p0:=act_inv h.inv hN hb
  have p1:=p0.pump (s:=0) (by decide)
  have hx:=act_hc h hb
  have e:(pumpX (actX X a) 0).en 1 = (actX X a).en 1:=by unfold Pr.en; rw [pump_sd,if_neg (by decide)]
  rw [pump_go p1.way]
  have c1:=cnt_go (pumpX (actX X a) 0) 1
  rw [e] at c1
  have c0:cnt 1 (pumpX (actX X a) 0).way ≤ cnt 1 (actX X a).way + hc ((actX X a).en 0):=by rw [pump_go p0.way]; exact cnt_go _ _
  omega
 ·omega
theorem run_hc (l:List Act):∀ {X:Pr} {N:Nat},RI X N → LInv X → N + l.length < 4294967295 → cnt 1 (runX X l).way ≤ cnt 1 X.way + l.length ∧ LInv (runX X l):=by
 induction l with
 | nil => exact fun _ h _ => ⟨Nat.le_refl _,h⟩
 | cons a l ih =>
  intro X N h hl hN
  have h1:=do_hc h (by simp at hN; omega) a
  obtain ⟨h2,h3⟩:=ih (ri_do h (by simp at hN; omega) a) (do_linv h hl (by simp at hN; omega) a) (by simp at hN ⊢; omega)
  refine ⟨?_,h3⟩
  simp only [List.length_cons]
  have:cnt 1 (runX (doX X a) l).way ≤ cnt 1 X.way + 1 + l.length:=by omega
  exact Nat.le_trans this (by omega)
def opX (X:Pr) (s:Nat):Pr:=if (X.en s).phase = 0 then doX X ⟨1,(s:Int),0,[]⟩ else X
theorem op_do {X:Pr} {N:Nat} (h:RI X N) (hN:N < 900000) {s:Nat} (hs:s < 2):RI (opX X s) (N + 1) ∧ (LInv X → LInv (opX X s)) ∧ cnt 1 (opX X s).way ≤ cnt 1 X.way + 1 ∧ ((opX X s).en s).phase ≠ 0 ∧ ∀ t,t ≠ s → ((opX X s).en t).phase = (X.en t).phase:=by
 unfold opX
 split
 ·rename_i h0
  have hI:=h.inv
  refine ⟨ri_do h (by omega) _,fun hl => do_linv h hl (by omega) _,do_hc h (by omega) _,?_⟩
  have hb:badA X ⟨1,(s:Int),0,[]⟩ = 0:=by
   unfold badA
   rw [if_neg (show ¬ ((1:Int) < 1 ∨ (8:Int) < 1) by decide),if_neg (by show ¬ ((1:Int) < 6 ∧ (s:Int) ≠ 0 ∧ (s:Int) ≠ 1); omega),if_neg (by show ¬ ((6:Int) ≤ 1 ∧ _); omega)]
  have ht:=h.tok s hs
  have e0:actX X ⟨1,(s:Int),0,[]⟩ = X.set s (endF (X.sd s) (openL (X.sd s).end_)):=rfl
  have e1:∀ t,(doX X ⟨1,(s:Int),0,[]⟩).en t = outL ((X.set s (endF (X.sd s) (openL (X.sd s).end_))).en t) ∨ (doX X ⟨1,(s:Int),0,[]⟩).en t = (X.set s (endF (X.sd s) (openL (X.sd s).end_))).en t:=fun t => by
   unfold doX
   rw [if_pos hb,e0]
   unfold Pr.en
   rw [pump_sd]
   split
   ·rename_i ht1
    subst ht1
    left
    rw [pump_sd,if_neg (by decide)]; rfl
   ·rw [pump_sd]
    split
    ·rename_i ht0
     subst ht0
     left; rfl
    ·right; rfl
  have e2:∀ t,((doX X ⟨1,(s:Int),0,[]⟩).en t).phase = ((X.set s (endF (X.sd s) (openL (X.sd s).end_))).en t).phase:=fun t => by
   rcases e1 t with h | h <;> rw [h] <;> rfl
  refine ⟨?_,fun t hts => ?_⟩
  ·rw [e2,set_en]
   show (openL (X.sd s).end_).phase ≠ 0
   unfold openL
   have h0':(X.sd s).end_.phase = 0:=h0
   have ht':(X.sd s).end_.token ≤ N:=ht
   rw [if_pos ⟨h0',by omega⟩,(emit_same _ _).phase]
   show (1:Int) ≠ 0
   decide
  ·rw [e2,set_en' hts]
 ·rename_i h0
  refine ⟨?_,id,by omega,h0,fun t _ => rfl⟩
  exact ⟨⟨h.inv.p.more (by omega),h.inv.out⟩,h.k,h.wn,h.kinds,fun t ht => by have:=h.tok t ht; omega⟩
theorem li_del:∀ (n:Nat) {X:Pr} {N:Nat},RI X N → LInv X → N + n < 4294967295 → LInv (delN n X)
 | 0,X,N,h,hl,_ => hl
 | n + 1,X,N,h,hl,hN => li_del n (ri_do h (by omega) hdA) (do_linv h hl (by omega) hdA) (by omega)
theorem li_round {X:Pr} {N:Nat} (h:RJ X N) (hl:LInv X) (hN:N + 1026 < 4294967295):LInv (roundX X):=by
 obtain ⟨M,hM,hr⟩:=h
 have h1:=ri_do hr (by omega) ⟨4,0,0,[]⟩
 have h2:=ri_do h1 (by omega) ⟨4,1,0,[]⟩
 have hw:=h2.inv.p.way
 exact li_del _ h2 (do_linv h1 (do_linv hr hl (by omega) ⟨4,0,0,[]⟩) (by omega) ⟨4,1,0,[]⟩) (by unfold tkX; omega)
theorem rk_li {k:Nat} (n:Nat):∀ {X:Pr},RK (k + n) X → LInv X → LInv (rounds n X):=by
 induction n with
 | zero => exact fun _ h => h
 | succ n ih =>
  intro X h hl
  obtain ⟨_,N,hN,hr⟩:=h
  exact ih (RK.round (k:=k + n) ⟨‹_›,N,hN,hr⟩) (li_round hr hl (by omega))
theorem cur_of {X:Pr} {N:Nat} (h:RI X N) (hl:LInv X) (hj:Jn X) {s:Nat} (hs:s < 2):Cur (keyL (X.en s)) s (ofK 3 (X.sd s).log (keyL (X.en s))) (X.sd (1 - s)).log X:=by
 have hu:=h.k.up_up hj.1 hj.2
 have h1:=hu s hs
 have h2:=hu (1 - s) (by omega)
 rw [show 1 - (1 - s) = s by omega] at h2
 refine ⟨hs,hj,rfl,?_,hl,rfl,[],by rw [List.append_nil],fun x hx => by cases hx⟩
 unfold keyL mir
 show ((X.en (1 - s)).own,(X.en (1 - s)).token,(X.en (1 - s)).boot,(X.en (1 - s)).yours) = ((X.en s).boot,(X.en s).yours,(X.en s).own,(X.en s).token)
 rw [h1.1,h1.2,h2.1,h2.2]
theorem settle {X:Pr} {k:Nat} (hk:RK (k + 64) X) (hl:LInv X) (hh:cnt 1 X.way ≤ 402) :
  (∀ i,13 ≤ i → i ≤ 64 → Jn (rounds i X)) ∧ Rm (rounds 64 X) 428 112 128 ∧ LInv (rounds 64 X) ∧ ∀ s,s < 2 → qN s (rounds 64 X) = 0:=by
 have h13:RK (k + 51) (rounds 13 X):=RK.rounds (k:=k + 51) 13 hk
 have hli:LInv (rounds 13 X):=rk_li (k:=k + 51) 13 hk hl
 obtain ⟨hj,hr⟩:=up13 (k:=k + 51) hk hh
 have h64:LInv (rounds 64 X):=rk_li (k:=k) 64 hk hl
 have esp:∀ i,13 ≤ i → rounds i X = rounds (i - 13) (rounds 13 X):=fun i hi => by
  rw [← rounds_add]; congr 1; omega
 have e64:=esp 64 (by decide)
 rw [e64] at h64 ⊢
 refine ⟨fun i hi hi2 => ?_,?_,h64,fun s hs => ?_⟩
 ·rw [esp i hi]
  exact jn_rounds (k:=k + (64 - i)) (i - 13) (by rw [show k + (64 - i) + (i - 13) = k + 51 by omega]; exact h13) hj
 ·exact (rm_rounds (k:=k) 51 h13 hr).2 hj
 ·obtain ⟨N,hN,hri⟩:=h13.ri
  have hc:=cur_of hri hli hj hs
  have hRd:Rd _ s _ _ (k + 51) (rounds 13 X):=⟨h13,⟨hr.h,Nat.le_trans hr.d (by decide),Nat.le_trans hr.a (by decide)⟩,hc⟩
  obtain ⟨d1,d2⟩:=drained (k:=k + 7) hRd
  have:=(Rd.rounds (k:=k) 7 d1).2
  show qN s (rounds 51 (rounds 13 X)) = 0
  rw [show (51:Nat) = 44 + 7 from rfl,rounds_add]
  omega
def scX (l:List Act):Pr:=opX (opX (runX newX l) 0) 1
theorem sc_rk {l:List Act} (hl:l.length ≤ 400):RI (scX l) (l.length + 2) ∧ LInv (scX l) ∧ Live (scX l) ∧ cnt 1 (scX l).way ≤ 402:=by
 have h0:=ri_run l ri_new (by omega)
 rw [Nat.zero_add] at h0
 obtain ⟨c0,l0⟩:=run_hc l ri_new new_linv (by omega)
 obtain ⟨a1,b1,c1,d1,e1⟩:=op_do h0 (by omega) (s:=0) (by decide)
 obtain ⟨a2,b2,c2,d2,e2⟩:=op_do a1 (by omega) (s:=1) (by decide)
 refine ⟨a2,b2 (b1 l0),fun s hs => ?_,?_⟩
 ·have h0:s = 0 ∨ s = 1:=by omega
  rcases h0 with rfl | rfl
  ·show ((opX (opX (runX newX l) 0) 1).en 0).phase ≠ 0
   rw [e2 0 (by decide)]; exact d1
  ·exact d2
 ·have:cnt 1 newX.way = 0:=rfl
  show cnt 1 (opX (opX (runX newX l) 0) 1).way ≤ 402
  omega
theorem settles {l:List Act} (hl:l.length ≤ 400) (k:Nat) (hk:k ≤ 700):RK (k + 64) (scX l) ∧
  (∀ i,13 ≤ i → i ≤ 64 → Jn (rounds i (scX l))) ∧ Rm (rounds 64 (scX l)) 428 112 128 ∧ LInv (rounds 64 (scX l)) ∧ ∀ s,s < 2 → qN s (rounds 64 (scX l)) = 0:=by
 obtain ⟨a,b,c,d⟩:=sc_rk hl
 have hrk:RK (k + 64) (scX l):=⟨c,l.length + 2,by omega,_,Nat.le_refl _,a⟩
 exact ⟨hrk,settle hrk b d⟩
end Go.Proofs.Ytnkkgofpifhoeaa.Pr
end
section
namespace Go.Proofs.Ytnkkgofpifhoeaa.Pr
open Go.Proofs.Ytnkkgofpifhoeaa.Lk
abbrev okB (b:List Int):Prop:=0 < b.length ∧ b.length ≤ 1000
def sndA (b:List Int):Act:=⟨3,0,0,b⟩
def sendsX (X:Pr) (bs:List (List Int)):Pr:=bs.foldl (fun Y b => doX Y (sndA b)) X
def wantF (bs:List (List Int)):List (List Int):=bs.filter (fun b => decide (okB b))
theorem snd_bad (X:Pr) (b:List Int):badA X (sndA b) = 0:=by
 unfold badA sndA
 rw [if_neg (show ¬ ((3:Int) < 1 ∨ (8:Int) < 3) by decide),if_neg (show ¬ ((3:Int) < 6 ∧ (0:Int) ≠ 0 ∧ (0:Int) ≠ 1) by decide),if_neg (by show ¬ ((6:Int) ≤ 3 ∧ _); omega)]
theorem snd_E {X:Pr} (h2:(X.en 0).phase = 2) (hq:qN 0 X < 64) (b:List Int):doE X (sndA b) = if okB b then 0 else 112:=by
 unfold doE
 rw [if_pos (snd_bad X b)]
 show sendE (X.sd 0).end_ b.length = _
 unfold sendE
 have h2':(X.sd 0).end_.phase = 2:=h2
 have hq':(X.sd 0).end_.queue.length < 64:=hq
 rw [if_pos h2']
 by_cases hb:b.length = 0 ∨ 1000 < b.length
 ·rw [if_pos hb,if_neg (by omega)]
 ·rw [if_neg hb,if_neg (by omega),if_pos (by omega)]
theorem cntk_go (k:Int) (X:Pr) (s:Nat):cnt k (goX X s).way ≤ cnt k X.way + (X.en s).out.countP (fun p => decide (p.kind = k)):=by
 rw [go_way]
 refine Nat.le_trans (cnt_take _ _ _) ?_
 rw [cnt_append]
 refine Nat.add_le_add_left ?_ _
 unfold cnt
 rw [List.countP_map]; exact Nat.le_refl _
theorem snd_no {X:Pr} {N:Nat} (hI:Inv X N) {b:List Int} (hE:doE X (sndA b) ≠ 0):doX X (sndA b) = X:=by
 have hb:=snd_bad X b
 have hs:sendE (X.sd 0).end_ b.length ≠ 0:=by
  intro h
  apply hE
  unfold doE
  rw [if_pos hb]; exact h
 unfold doX
 rw [if_pos hb]
 have e0:actX X (sndA b) = X:=by
  show X.set 0 (sendS (X.sd 0) b) = X
  unfold sendS
  rw [if_neg hs,send_no hs,endF_self,set_self]
 rw [e0,pump_none (hI.out 0 (by decide)) hI.p.way,pump_none (hI.out 1 (by decide)) hI.p.way]
section
variable {K:Key} {S:List (List Int)} {l:List Ent}
theorem snd_one {X:Pr} {N h d a:Nat} (hr:RI X N) (hN:N < 900000) (hc:Cur K 0 S l X) (hR:Rm X h d a) (hq:qN 0 X < 64) (b:List Int) :
  RI (doX X (sndA b)) (N + 1) ∧ Cur K 0 (S ++ wantF [b]) l (doX X (sndA b)) ∧ Rm (doX X (sndA b)) h (d + 1) a ∧ qN 0 (doX X (sndA b)) ≤ qN 0 X + 1:=by
 have hI:=hr.inv
 have h2:(X.en 0).phase = 2:=jn_any hc.jn (by decide)
 have hEq:=snd_E h2 hq b
 have hri:=ri_do hr (by omega) (sndA b)
 have hli:=do_linv hr hc.li (by omega) (sndA b)
 refine ⟨hri,?_⟩
 by_cases hb:okB b
 ·rw [if_pos hb] at hEq
  have hS:sendE (X.sd 0).end_ b.length = 0:=by
   have:doE X (sndA b) = sendE (X.sd 0).end_ b.length:=by unfold doE; rw [if_pos (snd_bad X b)]; rfl
   rw [← this]; exact hEq
  have hd:=hI.p.side 0 (by decide)
  obtain ⟨_,_,_,_,hss,_⟩:=send_turn hd.fine.ok (hI.out 0 (by decide)) b hS
  have e0:actX X (sndA b) = X.set 0 (noteF (endF (X.sd 0) (sendL (X.sd 0).end_ b)) 3 b):=by
   show X.set 0 (sendS (X.sd 0) b) = _
   unfold sendS; rw [if_pos hS]
  have e1:doX X (sndA b) = goX (X.set 0 (noteF (endF (X.sd 0) (sendL (X.sd 0).end_ b)) 3 b)) 0:=by
   unfold doX
   rw [if_pos (snd_bad X b),e0]
   refine pump2 (by decide) ?_ hI.p.way
   rw [Pr.set_ne _ (by decide)]
   exact hI.out 1 (by decide)
  have esd:(doX X (sndA b)).sd 0 = endF (noteF (endF (X.sd 0) (sendL (X.sd 0).end_ b)) 3 b) (outL (sendL (X.sd 0).end_ b)):=by rw [e1,go_sd,Pr.set_eq]; rfl
  have eot:(doX X (sndA b)).sd 1 = X.sd 1:=by rw [e1,go_ne (by decide),Pr.set_ne _ (by decide)]
  have een:(doX X (sndA b)).en 0 = outL (sendL (X.sd 0).end_ b):=by unfold Pr.en; rw [esd]; rfl
  have eo1:(doX X (sndA b)).en 1 = X.en 1:=by unfold Pr.en; rw [eot]
  have hw:wantF [b] = [b]:=by unfold wantF; rw [List.filter_cons_of_pos (by simpa using hb)]; rfl
  have hke:keyL (sendL (X.sd 0).end_ b) = keyL (X.en 0):=(keyL_same hss).trans rfl
  obtain ⟨_,fo,_⟩:=fill_eq (L:={ (X.sd 0).end_ with queue:=(X.sd 0).end_.queue ++ [b] }) (k:=min 8 (X.sd 0).end_.queue.length) (hr.wn 0 (by decide)).full (by show _ ≤ min 8 ((X.sd 0).end_.queue ++ [b]).length; rw [List.length_append]; omega) (hI.out 0 (by decide))
  have fo':(sendL (X.sd 0).end_ b).out = (List.range' (min 8 (X.sd 0).end_.queue.length) (min 8 ((X.sd 0).end_.queue ++ [b]).length - min 8 (X.sd 0).end_.queue.length)).map (fun i:Nat => dataP { (X.sd 0).end_ with queue:=(X.sd 0).end_.queue ++ [b] } (i:Int)):=by
   unfold sendL; rw [if_pos hS]; exact fo
  refine ⟨⟨by decide,⟨?_,?_⟩,?_,?_,hli,?_,?_⟩,?_,?_⟩
  ·rw [een]; show (sendL (X.sd 0).end_ b).phase = 2; rw [hss.phase]; exact h2
  ·rw [eo1]; exact hc.jn.2
  ·rw [een]; exact hke.trans hc.k
  ·show keyL ((doX X (sndA b)).en 1) = _; rw [eo1]; exact hc.ko
  ·rw [esd,hw,← hc.sent]
   exact ofK_yes rfl ((entF_key2 hd h2 3 b).trans hc.k)
  ·show ∃ g,((doX X (sndA b)).sd 1).log = _ ∧ _
   rw [eot]; exact hc.log
  ·have hx:∀ k,cnt k (doX X (sndA b)).way ≤ cnt k X.way + (sendL (X.sd 0).end_ b).out.countP (fun p => decide (p.kind = k)):=fun k => by
    rw [e1]
    refine Nat.le_trans (cntk_go k _ 0) ?_
    rw [set_en]; exact Nat.le_refl _
   have hz:∀ k,k ≠ 2 → (sendL (X.sd 0).end_ b).out.countP (fun p => decide (p.kind = k)) = 0:=fun k hk => by
    rw [fo',List.countP_map,List.countP_eq_zero]
    intro i _
    simp only [Function.comp,decide_eq_true_eq]
    exact fun x => hk x.symm
   have h1:=hx 1; have h3:=hx 3; have h2':=hx 2
   rw [hz 1 (by decide)] at h1
   rw [hz 3 (by decide)] at h3
   have hl:(sendL (X.sd 0).end_ b).out.countP (fun p => decide (p.kind = 2)) ≤ 1:=by
    refine Nat.le_trans List.countP_le_length ?_
    rw [fo',List.length_map,List.length_range',List.length_append]
    simp only [List.length_singleton]; omega
   have r1:=hR.h; have r2:=hR.d; have r3:=hR.a
   exact ⟨by omega,by omega,by omega⟩
  ·unfold qN
   rw [een]
   show (sendL (X.sd 0).end_ b).queue.length ≤ _
   rw [hss.queue]
   show ((X.sd 0).end_.queue ++ [b]).length ≤ _
   rw [List.length_append]; exact Nat.le_refl _
 ·rw [if_neg hb] at hEq
  have hw:wantF [b] = []:=by unfold wantF; rw [List.filter_cons_of_neg (by simpa using hb)]; rfl
  rw [hw,List.append_nil,snd_no hI (by rw [hEq]; decide)]
  exact ⟨hc,⟨hR.h,by have:=hR.d; omega,hR.a⟩,by omega⟩
theorem snd_all (bs:List (List Int)):∀ {X:Pr} {N h d a:Nat} {S:List (List Int)},RI X N → N + bs.length < 900000 → Cur K 0 S l X → Rm X h d a → qN 0 X + bs.length ≤ 64 →
  RI (sendsX X bs) (N + bs.length) ∧ Cur K 0 (S ++ wantF bs) l (sendsX X bs) ∧ Rm (sendsX X bs) h (d + bs.length) a ∧ qN 0 (sendsX X bs) ≤ qN 0 X + bs.length:=by
 induction bs with
 | nil => intro X N h d a S hr hN hc hR hq; exact ⟨hr,by show Cur K 0 (S ++ []) l X; rw [List.append_nil]; exact hc,hR,Nat.le_refl _⟩
 | cons b bs ih =>
  intro X N h d a S hr hN hc hR hq
  simp only [List.length_cons] at hN hq
  obtain ⟨a1,b1,c1,d1⟩:=snd_one hr (by omega) hc hR (by omega) b
  obtain ⟨a2,b2,c2,d2⟩:=ih a1 (by omega) b1 c1 (by omega)
  refine ⟨?_,?_,?_,?_⟩
  ·show RI (sendsX (doX X (sndA b)) bs) _
   rw [show N + (b :: bs).length = N + 1 + bs.length by simp only [List.length_cons]; omega]; exact a2
  ·show Cur K 0 (S ++ wantF (b :: bs)) l (sendsX (doX X (sndA b)) bs)
   have:wantF (b :: bs) = wantF [b] ++ wantF bs:=by unfold wantF; rw [← List.filter_append]; rfl
   rw [this,← List.append_assoc]; exact b2
  ·have r1:=c2.h; have r2:=c2.d; have r3:=c2.a
   refine ⟨r1,?_,r3⟩
   show cnt 2 (sendsX (doX X (sndA b)) bs).way ≤ _
   simp only [List.length_cons]; omega
  ·show qN 0 (sendsX (doX X (sndA b)) bs) ≤ _
   simp only [List.length_cons]; omega
end
def dpA:Act:=⟨7,0,0,[]⟩
theorem dp_do {X:Pr} {N:Nat} (hI:Inv X N) (hw:0 < X.way.length):doX X dpA = { X with way:=X.way.eraseIdx 0 }:=by
 have hb:badA X dpA = 0:=by
  unfold badA dpA
  rw [if_neg (show ¬ ((7:Int) < 1 ∨ (8:Int) < 7) by decide),if_neg (show ¬ ((7:Int) < 6 ∧ (0:Int) ≠ 0 ∧ (0:Int) ≠ 1) by decide),if_neg (by show ¬ ((6:Int) ≤ 7 ∧ ((0:Int) < 0 ∨ (X.way.length:Int) ≤ 0)); omega)]
 unfold doX
 rw [if_pos hb]
 have e0:actX X dpA = { X with way:=X.way.eraseIdx 0 }:=rfl
 have hl:(X.way.eraseIdx 0).length ≤ 1024:=Nat.le_trans (List.eraseIdx_sublist _ _).length_le hI.p.way
 rw [e0,pump_none (X:={ X with way:=X.way.eraseIdx 0 }) (hI.out 0 (by decide)) hl,pump_none (X:={ X with way:=X.way.eraseIdx 0 }) (hI.out 1 (by decide)) hl]
def drN:Nat → Pr → Pr
 | 0,X => X
 | n + 1,X => drN n (doX X dpA)
def lostX (X:Pr):Pr:=drN (doX X ⟨4,0,0,[]⟩).way.length (doX X ⟨4,0,0,[]⟩)
def lostN:Nat → Pr → Pr
 | 0,X => X
 | n + 1,X => lostX (lostN n X)
section
variable {K:Key} {S:List (List Int)} {l:List Ent}
theorem Cur.way {s:Nat} {X:Pr} (h:Cur K s S l X) (hli:LInv { X with way:=[] }):Cur K s S l { X with way:=[] }:=⟨h.s2,h.jn,h.k,h.ko,hli,h.sent,h.log⟩
theorem drN_do:∀ (n:Nat) {X:Pr} {N:Nat},RI X N → LInv X → N + n < 900000 → X.way.length = n → RI (drN n X) (N + n) ∧ LInv (drN n X) ∧ drN n X = { X with way:=[] }
 | 0,X,N,hr,hl,_,hw => ⟨hr,hl,by
   show X = _
   have:X.way = []:=List.eq_nil_of_length_eq_zero hw
   cases X; simp only at this; subst this; rfl⟩
 | n + 1,X,N,hr,hl,hN,hw => by
  have e:=dp_do hr.inv (by omega)
  obtain ⟨a,b,c⟩:=drN_do n (X:=doX X dpA) (ri_do hr (by omega) dpA) (do_linv hr hl (by omega) dpA) (by omega) (by rw [e]; show (X.way.eraseIdx 0).length = n; rw [List.length_eraseIdx_of_lt (by omega)]; omega)
  rw [show N + (n + 1) = N + 1 + n by omega]
  refine ⟨a,b,?_⟩
  show drN n (doX X dpA) = _
  rw [c,e]
theorem lost_one {X:Pr} {N:Nat} (hr:RI X N) (hN:N + 1025 < 900000) (hc:Cur K 0 S l X) (hroom:X.way.length + 8 ≤ 1024) :
  ∃ M,M ≤ N + 1025 ∧ RI (lostX X) M ∧ Cur K 0 S l (lostX X) ∧ (lostX X).way = []:=by
 obtain ⟨c1,_⟩:=tick_eff hr (by omega) hc (u:=0) (by decide) hroom
 have c1':Cur K 0 S l (doX X ⟨4,0,0,[]⟩):=c1
 have h1:=ri_do hr (by omega) ⟨4,0,0,[]⟩
 have hw:=h1.inv.p.way
 obtain ⟨a,b,c⟩:=drN_do _ h1 c1'.li (by omega) rfl
 refine ⟨_,by omega,a,?_,?_⟩
 ·show Cur K 0 S l (drN _ _)
  rw [c] at b ⊢
  exact c1'.way b
 ·show (drN _ _).way = []
  rw [c]
set_option maxRecDepth 20000 in
theorem lost_all (n:Nat) (hn:n ≤ 7) {X:Pr} {N:Nat} (hr:RI X N) (hN:N + n * 1025 < 900000) (hc:Cur K 0 S l X) (hR:Rm X 428 172 188) :
  ∃ M,M ≤ N + n * 1025 ∧ RI (lostN n X) M ∧ Cur K 0 S l (lostN n X) ∧ Rm (lostN n X) 428 172 188:=by
 induction n with
 | zero => exact ⟨N,by omega,hr,hc,hR⟩
 | succ n ih =>
  obtain ⟨M,h1,h2,h3,h4⟩:=ih (by omega) (by omega)
  have hl:=h4.len ⟨M,Nat.le_refl _,h2⟩
  obtain ⟨M',k1,k2,k3,k4⟩:=lost_one h2 (by omega) h3 (by omega)
  refine ⟨M',by omega,k2,k3,?_⟩
  show Rm (lostX (lostN n X)) _ _ _
  constructor <;> (rw [k4,cnt_nil]; omega)
theorem all_got {X:Pr} {N:Nat} (hr:RI X N) (hc:Cur K 0 S l X) (hq:qN 0 X = 0):ofK 4 (X.sd 1).log (mir K) = S:=by
 have hB:=bnd_of hr hc
 have h1:=hB.lo; have h2:=hB.hi
 have e1:loN S 0 X = S.length - qN 0 X:=rfl
 have e2:hiN S 0 X = S.length - (qN 0 X - 8):=rfl
 have hp:=hr.inv.p.pref 1 (by decide) (mir K)
 have hp':ofK 4 (X.sd 1).log (mir K) <+: S:=by
  have e:ofK 3 (X.sd (1 - 1)).log (mir (mir K)) = S:=hc.sent
  rw [e] at hp; exact hp
 refine hp'.eq_of_length ?_
 show gotN K 0 X = S.length
 omega
theorem ofK_all {g:List Ent} {c:Int} {K:Key} (h:∀ x ∈ g,x.kind = c ∧ keyE x = K):ofK c g K = g.map (·.body):=by
 unfold ofK
 rw [List.filter_eq_self.2 (fun x hx => decide_eq_true (h x hx))]
end
theorem all_plain {X:Pr} {N:Nat} (hr:RI X N) (hN:N + 64 + 8000 + 64 * 1026 < 900000) (hli:LInv X) (hj:Jn X) (hR:Rm X 428 112 128) (hq:qN 0 X = 0) (bs:List (List Int)) (hbs:bs.length ≤ 60) (n:Nat) (hn:n ≤ 7) :
  (∃ g,((rounds 64 (lostN n (sendsX X bs))).sd 1).log = (X.sd 1).log ++ g ∧ g.map (·.body) = wantF bs ∧ ∀ x ∈ g,x.kind = 4) ∧
  (∀ i,i < bs.length → ((sendsX X (bs.take i)).en 0).phase = 2) ∧ (∀ i,i < bs.length → qN 0 (sendsX X (bs.take i)) < 64):=by
 have hc:=cur_of hr hli hj (s:=0) (by decide)
 have hS:=all_got hr hc hq
 generalize ofK 3 (X.sd 0).log (keyL (X.en 0)) = S at *
 generalize keyL (X.en 0) = K at *
 have hpre:∀ i,i < bs.length → Cur K 0 (S ++ wantF (bs.take i)) (X.sd 1).log (sendsX X (bs.take i)) ∧ qN 0 (sendsX X (bs.take i)) ≤ qN 0 X + (bs.take i).length:=fun i hi => by
  have hl:(bs.take i).length ≤ bs.length:=by rw [List.length_take]; omega
  obtain ⟨_,a,_,b⟩:=snd_all (bs.take i) hr (by omega) hc hR (by omega)
  exact ⟨a,b⟩
 refine ⟨?_,fun i hi => jn_any (hpre i hi).1.jn (by decide),fun i hi => ?_⟩
 ·obtain ⟨r1,c1,m1,q1⟩:=snd_all bs hr (by omega) hc hR (by omega)
  have m1':Rm (sendsX X bs) 428 172 188:=⟨m1.h,by have:=m1.d; omega,by have:=m1.a; omega⟩
  obtain ⟨M,hM,r2,c2,m2⟩:=lost_all n hn r1 (by omega) c1 m1'
  have hrk:RK (0 + 64) (lostN n (sendsX X bs)):=⟨c2.live,M,by omega,M,Nat.le_refl _,r2⟩
  have hRd:Rd K 0 (S ++ wantF bs) (X.sd 1).log (20 + 44) (lostN n (sendsX X bs)):=⟨hrk,m2,c2⟩
  obtain ⟨d1,d2⟩:=drained (k:=20) hRd
  obtain ⟨f1,f2⟩:=Rd.rounds (k:=0) 20 d1
  rw [← rounds_add,show (44 + 20:Nat) = 64 from rfl] at f1 f2
  generalize hZ:rounds 64 (lostN n (sendsX X bs)) = Z at *
  have hq0:qN 0 Z = 0:=by omega
  obtain ⟨N3,_,hr3⟩:=f1.rk.ri
  have hT:=all_got hr3 f1.cur hq0
  obtain ⟨g,hg,hx⟩:=f1.cur.log
  refine ⟨g,hg,?_,fun x hm => (hx x hm).1⟩
  have e:ofK 4 (Z.sd 1).log (mir K) = ofK 4 (X.sd 1).log (mir K) ++ ofK 4 g (mir K):=by
   rw [show (Z.sd 1).log = (X.sd 1).log ++ g from hg,ofK_append]
  rw [hT,hS,ofK_all hx] at e
  exact (List.append_cancel_left e).symm
 ·have:=(hpre i hi).2
  rw [List.length_take] at this
  omega
end Go.Proofs.Ytnkkgofpifhoeaa.Pr
end
section
namespace Go.Proofs.Ytnkkgofpifhoeaa.Pr
open Go.RowKit Go.Proofs.Ytnkkgofpifhoeaa.Base Go.Proofs.Ytnkkgofpifhoeaa.Steps Go.Proofs.Ytnkkgofpifhoeaa.Lk Go.Proofs.Ytnkkgofpifhoeaa.Win Go.Proofs.YtnkkgofpifhoeaaW.PrintWords Go.Proofs.YtnkkgofpifhoeaaW.PrintLast
theorem ent_elem {w:World} {B:Nat} {ok:Nat → Prop} {A:Option Addr} {n c:Nat} {l:List Ent} (h:ent.R 67 w B ok (.slice A n c) l) (i:Nat) (hi:i < n) :
  ∃ g Ab cb,A = some ⟨g,0,none⟩ ∧ n = l.length ∧ w.rangeAt g (i * 6) (ecells (l.getD i nilE) (.slice Ab (l.getD i nilE).body.length cb)) ∧ (Kd.int .u8).C w Ab (l.getD i nilE).body.length (l.getD i nilE).body:=by
 obtain ⟨hn,hnc,hC⟩:=Kd.R_reads' h
 obtain ⟨gx,cap,he,_⟩:=Kd.R_form h (by omega)
 injection he with h1 h2 h3
 subst h1
 obtain ⟨cs,hl,hM,hc,_⟩:=Kd.R_elem h nilE (i:Int) (by omega) (by omega)
 obtain ⟨b,hcs,hRb⟩:=ent_M.1 hM
 obtain ⟨Ab,cb,hbv⟩:=Kd.R_slice hRb
 subst hbv
 subst hcs
 refine ⟨gx,Ab,cb,rfl,hn,fun j u hu => ?_,(Kd.R_reads' hRb).2.2⟩
 have:=hc j u hu
 simpa [ent_sz] using this
end Go.Proofs.Ytnkkgofpifhoeaa.Pr
end
