/- What the laws of a pair are proved with: links and pairs in memory, what their methods do, what a pair keeps to (part 2). -/
import Derived.Test.YtnkkgofpifhoeaaPD1
import Derived.Scope
import Derived.WalkMore
import Derived.ScopeJumps
set_option linter.unusedSimpArgs false
set_option linter.unusedVariables false
section
namespace Go.Proofs.Ytnkkgofpifhoeaa.Pk
open Go.RowKit Go.Proofs.Ytnkkgofpifhoeaa.Flt Go.Proofs.Ytnkkgofpifhoeaa.Base Go.Proofs.Ytnkkgofpifhoeaa.Num
theorem run_zeq {P:Program} (W:World) (t:TypeId) (x y:Nat):(binOp .eql t (.complex .f64 x y) (.complex .f64 0 0)).run P W = .ok (.bool (nul x && nul y)) W:=by
 have h1:=fzero x
 have h2:=fzero y
 simp [binOp,Op.complexOp,Op.Complex.cmp,Op.floatCmp,asBool,h1,h2]
def good1 (mine boot yours seq ack stamp echo:Int) (zr zi n:Nat):Bool :=
 decide (mine ≠ 0 ∧ seq < 2 ∧ ((0 < boot) ↔ (0 < yours)) ∧ n = 0 ∧ ack = 0 ∧ stamp = 0 ∧ echo = 0) && (nul zr && nul zi)
def good2 (mine boot yours stamp echo:Int) (zr zi n:Nat):Bool :=
 decide (mine ≠ 0 ∧ boot > 0 ∧ yours > 0 ∧ 0 < n ∧ stamp = 0 ∧ echo = 0) && (nul zr && nul zi)
def good3 (mine boot yours seq stamp echo:Int) (zr zi n:Nat):Bool :=
 decide (mine ≠ 0 ∧ boot > 0 ∧ yours > 0 ∧ n = 0 ∧ seq = 0 ∧ stamp = 0 ∧ echo = 0) && (nul zr && nul zi)
def good4 (mine boot yours seq:Int) (zr zi n:Nat):Bool :=
 placeB zr zi && decide (mine ≠ 0 ∧ boot > 0 ∧ yours > 0 ∧ n = 0 ∧ seq = 0)
set_option maxRecDepth 100000 in
set_option maxHeartbeats 4000000 in
theorem good_hello (mine boot yours seq ack stamp echo:Int) (zr zi:Nat) (A:Option Addr) (n c:Nat) (w:World) :
  Calls Try.prog 66 #[.agg #[.int .i64 1,.int .u32 mine,.int .u32 boot,.int .u32 yours,.int .u32 seq,.int .u32 ack,.int .u32 stamp,.int .u32 echo,.complex .f64 zr zi,.slice A n c],
   .agg #[.bool true,.bool false,.bool false,.bool false,.int .i64 14,.int .i64 14]] w
   fun e w' => e = .returned (.bool (good1 mine boot yours seq ack stamp echo zr zi n)) ∧ Below w.heap.size w w':=by
 have hz:=fun (W:World) => run_zeq (P:=Try.prog) W 25 zr zi
 have hu27:=Try.underlying27
 go_enter Try.func66,Try.ntmps66
 go_wp2
 all_goals
  go_ret
  refine ⟨ret_bool ?_,?_⟩
  ·unfold good1
   simp_all <;> omega
  ·repeat (first | exact Below.refl _ _ | refine Below.setCell ?_ (by simp <;> omega) _ | refine Below.alloc ?_ (by simp <;> omega) _)
set_option maxRecDepth 100000 in
set_option maxHeartbeats 4000000 in
theorem good_data (mine boot yours seq ack stamp echo:Int) (zr zi:Nat) (A:Option Addr) (n c:Nat) (w:World) :
  Calls Try.prog 66 #[.agg #[.int .i64 2,.int .u32 mine,.int .u32 boot,.int .u32 yours,.int .u32 seq,.int .u32 ack,.int .u32 stamp,.int .u32 echo,.complex .f64 zr zi,.slice A n c],
   .agg #[.bool true,.bool true,.bool false,.bool true,.int .i64 22,.int .i64 1021]] w
   fun e w' => e = .returned (.bool (good2 mine boot yours stamp echo zr zi n)) ∧ Below w.heap.size w w':=by
 have hz:=fun (W:World) => run_zeq (P:=Try.prog) W 25 zr zi
 have hu27:=Try.underlying27
 go_enter Try.func66,Try.ntmps66
 go_wp2
 all_goals
  go_ret
  refine ⟨ret_bool ?_,?_⟩
  ·unfold good2
   simp_all <;> omega
  ·repeat (first | exact Below.refl _ _ | refine Below.setCell ?_ (by simp <;> omega) _ | refine Below.alloc ?_ (by simp <;> omega) _)
set_option maxRecDepth 100000 in
set_option maxHeartbeats 4000000 in
theorem good_ack (mine boot yours seq ack stamp echo:Int) (zr zi:Nat) (A:Option Addr) (n c:Nat) (w:World) :
  Calls Try.prog 66 #[.agg #[.int .i64 3,.int .u32 mine,.int .u32 boot,.int .u32 yours,.int .u32 seq,.int .u32 ack,.int .u32 stamp,.int .u32 echo,.complex .f64 zr zi,.slice A n c],
   .agg #[.bool false,.bool true,.bool false,.bool false,.int .i64 17,.int .i64 17]] w
   fun e w' => e = .returned (.bool (good3 mine boot yours seq stamp echo zr zi n)) ∧ Below w.heap.size w w':=by
 have hz:=fun (W:World) => run_zeq (P:=Try.prog) W 25 zr zi
 have hu27:=Try.underlying27
 go_enter Try.func66,Try.ntmps66
 go_wp2
 all_goals
  go_ret
  refine ⟨ret_bool ?_,?_⟩
  ·unfold good3
   simp_all <;> omega
  ·repeat (first | exact Below.refl _ _ | refine Below.setCell ?_ (by simp <;> omega) _ | refine Below.alloc ?_ (by simp <;> omega) _)
set_option maxRecDepth 100000 in
set_option maxHeartbeats 4000000 in
theorem good_beat (mine boot yours seq ack stamp echo:Int) (zr zi:Nat) (A:Option Addr) (n c:Nat) (w:World) (hp:zr < 18446744073709551616) (hq:zi < 18446744073709551616) :
  Calls Try.prog 66 #[.agg #[.int .i64 4,.int .u32 mine,.int .u32 boot,.int .u32 yours,.int .u32 seq,.int .u32 ack,.int .u32 stamp,.int .u32 echo,.complex .f64 zr zi,.slice A n c],
   .agg #[.bool false,.bool true,.bool true,.bool false,.int .i64 41,.int .i64 41]] w
   fun e w' => e = .returned (.bool (good4 mine boot yours seq zr zi n)) ∧ Below w.heap.size w w':=by
 have hz:=fun (W:World) => run_zeq (P:=Try.prog) W 25 0 0
 have hn:nul 0 = true:=rfl
 have hu27:=Try.underlying27
 cases hpl:placeB zr zi
 all_goals
  have HP:=Lib.hid hpl
  clear hpl
  have hq':=Lib.hid hq
  have hp':=Lib.hid hp
  clear hp hq
  go_enter Try.func66,Try.ntmps66
  go_wp2_with (go_at_call 99; refine (right_any zr zi hp'.out hq'.out _).mono ?_; rintro e w' ⟨rfl,hb⟩; rw [HP.out]; obtain ⟨hc,hf⟩:=bcell hb; have hz1:=hb.size; simp at hz1)
 all_goals
  go_ret
  refine ⟨ret_bool ?_,?_⟩
  ·unfold good4
   rw [HP.out]
   simp_all <;> omega
  ·(repeat (first | refine Below.setCell ?_ (by simp <;> omega) _ | refine Below.alloc ?_ (by simp <;> omega) _ | exact Below.refl _ _ | refine Below.trans ?_ (Below.mono (by assumption) (by simp <;> omega))))
end Go.Proofs.Ytnkkgofpifhoeaa.Pk
end
section
namespace Go.Proofs.Ytnkkgofpifhoeaa.Pk
open Go.RowKit Go.Proofs.YtnkkgofpifhoeaaW.PrintWords Go.Proofs.YtnkkgofpifhoeaaW.PrintLast Go.Proofs.Ytnkkgofpifhoeaa.Base
theorem b1 (w:World):(Instr.build 107 #[(0,.bool true),(4,.int .i64 14),(5,.int .i64 14)]).run Try.prog w = .ok (.agg #[.bool true,.bool false,.bool false,.bool false,.int .i64 14,.int .i64 14]) w:=by kernel_rfl
theorem b2 (w:World):(Instr.build 107 #[(0,.bool true),(1,.bool true),(3,.bool true),(4,.int .i64 22),(5,.int .i64 1021)]).run Try.prog w = .ok (.agg #[.bool true,.bool true,.bool false,.bool true,.int .i64 22,.int .i64 1021]) w:=by kernel_rfl
theorem b3 (w:World):(Instr.build 107 #[(1,.bool true),(4,.int .i64 17),(5,.int .i64 17)]).run Try.prog w = .ok (.agg #[.bool false,.bool true,.bool false,.bool false,.int .i64 17,.int .i64 17]) w:=by kernel_rfl
theorem b4 (w:World):(Instr.build 107 #[(1,.bool true),(2,.bool true),(4,.int .i64 41),(5,.int .i64 41)]).run Try.prog w = .ok (.agg #[.bool false,.bool true,.bool true,.bool false,.int .i64 41,.int .i64 41]) w:=by kernel_rfl
def tcells:Array Value:=#[.bool false,.bool false,.bool false,.bool false,.int .i64 0,.int .i64 0,.bool true,.bool false,.bool false,.bool false,.int .i64 14,.int .i64 14,.bool true,.bool true,.bool false,.bool true,.int .i64 22,.int .i64 1021,.bool false,.bool true,.bool false,.bool false,.int .i64 17,.int .i64 17,.bool false,.bool true,.bool true,.bool false,.int .i64 41,.int .i64 41]
def table:Value:=.agg tcells
theorem b5 (w:World):(Instr.build 108 #[(1,.agg #[.bool true,.bool false,.bool false,.bool false,.int .i64 14,.int .i64 14]),(2,.agg #[.bool true,.bool true,.bool false,.bool true,.int .i64 22,.int .i64 1021]),(3,.agg #[.bool false,.bool true,.bool false,.bool false,.int .i64 17,.int .i64 17]),(4,.agg #[.bool false,.bool true,.bool true,.bool false,.int .i64 41,.int .i64 41])]).run Try.prog w = .ok (.agg tcells) w:=by kernel_rfl
def zrow:Array Value:=#[.bool false,.bool false,.bool false,.bool false,.int .i64 0,.int .i64 0,.bool false,.bool false,.bool false,.bool false,.int .i64 0,.int .i64 0,.bool false,.bool false,.bool false,.bool false,.int .i64 0,.int .i64 0,.bool false,.bool false,.bool false,.bool false,.int .i64 0,.int .i64 0,.bool false,.bool false,.bool false,.bool false,.int .i64 0,.int .i64 0]
theorem al (w:World) (v:Value):(Instr.alloc 108 true v).run Try.prog w = .ok (.pointer (some ⟨w.heap.size,0,none⟩)) (w.alloc (.cells zrow 108)):=by kernel_rfl
theorem results_cell {P:Program} {fn:Func} {p:Tmp} {ty:TypeId} {w:World} {v:Value} (h:fn.results = #[.cell p ty]) (tmps:Array Value) (g:Nat) (hp:tmps.getD p undef = .pointer (some ⟨g,0,none⟩))
  (hl:(loadVar ty ⟨g,0,none⟩).run P w = .ok v w):(results fn tmps).run P w = .ok v w:=by
 have hp':tmps[p]?.getD undef = .pointer (some ⟨g,0,none⟩):=by simpa using hp
 simp only [results,h]
 simp [hp',asAddr,hl]
theorem setRow_alloc (w:World) (a b:Array Value) (t:TypeId):(w.alloc (.cells a t)).setRow w.heap.size b = w.alloc (.cells b t):=by
 have hm:∀ (h:Array Obj) (x:Obj) (f:Obj → Obj),(h.push x).modify h.size f = h.push (f x):=by
  intro h x f
  apply Array.ext
  ·simp
  ·intro i h1 h2
   simp only [Array.getElem_modify,Array.getElem_push]
   by_cases hi:h.size = i
   ·subst hi
    simp
   ·have hlt:i < h.size:=by simp at h1; omega
    simp [hi,hlt]
 unfold World.setRow World.alloc
 simp only
 rw [hm]
set_option maxRecDepth 100000 in
set_option maxHeartbeats 4000000 in
theorem rows_any (w:World):Calls Try.prog 59 #[] w fun e w' => e = .returned table ∧ Below w.heap.size w w':=by
 have h1:=b1
 have h2:=b2
 have h3:=b3
 have h4:=b4
 have h5:=b5
 have h0:=al
 go_enter Try.func59,Try.ntmps59
 go_wp2_with (((with_reducible refine gate_ (.store 108 (.tmp 0) (.tmp 5)) rfl ?_); refine wpList_store_row rfl 108 (.tmp 0) (.tmp 5) rfl w.heap.size _ rfl rfl 108 zrow (heap_alloc_new w _) (by kernel_rfl) rfl (by kernel_rfl) ?_; rw [setRow_alloc]))
 refine bodyPost_ret (v:=table) ?_ rfl ⟨rfl,(Below.refl _ _).alloc (Nat.le_refl _) _⟩
 have hl:=run_loadVar_row (P:=Try.prog) (w.alloc (.cells tcells 108)) w.heap.size 108 108 tcells (0,0) _ (heap_alloc_new w _) Try.underlying108 rfl (by kernel_rfl)
 exact results_cell Try.results59 _ _ rfl hl
end Go.Proofs.Ytnkkgofpifhoeaa.Pk
end
section
namespace Go.Proofs.Ytnkkgofpifhoeaa.Pk
open Go.RowKit Go.Proofs.Ytnkkgofpifhoeaa.Flt Go.Proofs.Ytnkkgofpifhoeaa.Base Go.Proofs.Ytnkkgofpifhoeaa.Num Go.Proofs.YtnkkgofpifhoeaaW.PrintWords Go.Proofs.YtnkkgofpifhoeaaW.PrintLast
theorem ix1 (w:World):(Instr.index 108 table (.int .i64 1)).run Try.prog w = .ok (.agg #[.bool true,.bool false,.bool false,.bool false,.int .i64 14,.int .i64 14]) w:=by kernel_rfl
theorem ix2 (w:World):(Instr.index 108 table (.int .i64 2)).run Try.prog w = .ok (.agg #[.bool true,.bool true,.bool false,.bool true,.int .i64 22,.int .i64 1021]) w:=by kernel_rfl
theorem ix3 (w:World):(Instr.index 108 table (.int .i64 3)).run Try.prog w = .ok (.agg #[.bool false,.bool true,.bool false,.bool false,.int .i64 17,.int .i64 17]) w:=by kernel_rfl
theorem ix4 (w:World):(Instr.index 108 table (.int .i64 4)).run Try.prog w = .ok (.agg #[.bool false,.bool true,.bool true,.bool false,.int .i64 41,.int .i64 41]) w:=by kernel_rfl
set_option maxRecDepth 100000 in
set_option maxHeartbeats 4000000 in
theorem check_hello (mine boot yours seq ack stamp echo:Int) (zr zi:Nat) (A:Option Addr) (n c:Nat) (w:World) :
  Calls Try.prog 20 #[.agg #[.int .i64 1,.int .u32 mine,.int .u32 boot,.int .u32 yours,.int .u32 seq,.int .u32 ack,.int .u32 stamp,.int .u32 echo,.complex .f64 zr zi,.slice A n c]] w
   fun e w' => e = .returned (.int .i64 (if good1 mine boot yours seq ack stamp echo zr zi n = true then 0 else 101)) ∧ Below w.heap.size w w':=by
 have hu27:=Try.underlying27
 have hix:=ix1
 cases hg:good1 mine boot yours seq ack stamp echo zr zi n
 all_goals
  have HG:=Lib.hid hg
  clear hg
  go_enter Try.func20,Try.ntmps20
  go_wp2_with fail
  have HB:=Lib.hid (heap_alloc_new w (.cells #[.int .i64 1,.int .u32 mine,.int .u32 boot,.int .u32 yours,.int .u32 seq,.int .u32 ack,.int .u32 stamp,.int .u32 echo,.complex .f64 zr zi,.slice A n c] 27))
  have HW:=Lib.hid (bl_drew ((Below.refl w.heap.size w).alloc (Nat.le_refl _) (.cells #[.int .i64 1,.int .u32 mine,.int .u32 boot,.int .u32 yours,.int .u32 seq,.int .u32 ack,.int .u32 stamp,.int .u32 echo,.complex .f64 zr zi,.slice A n c] 27)))
  refine start_ (n:=7) (S:=fun w' => w'.heap[w.heap.size]? = some (.cells #[.int .i64 1,.int .u32 mine,.int .u32 boot,.int .u32 yours,.int .u32 seq,.int .u32 ack,.int .u32 stamp,.int .u32 echo,.complex .f64 zr zi,.slice A n c] 27 (0,0))) (ds:=[]) M2c (by kernel_rfl) rfl rfl (HB.out) (fun hHeld => ?_)
  generalize (w.alloc (.cells #[.int .i64 1,.int .u32 mine,.int .u32 boot,.int .u32 yours,.int .u32 seq,.int .u32 ack,.int .u32 stamp,.int .u32 echo,.complex .f64 zr zi,.slice A n c] 27)).drew = w1 at HW hHeld ⊢
  refine take_ (i:=0) (N:=some 20) (v:=?_) (a':=?_) M2g rfl rfl (by kernel_rfl) (fun _ _ _ h => h) (Or.inl ⟨by rfl,?_⟩) hHeld ?_ ?_
  rotate_left
  ·intro w' s0
   have hc0:w'.cell? ⟨w.heap.size,0,none⟩ = some (.int .i64 1):=(blk_cell s0 0).trans rfl
   have hc1:w'.cell? ⟨w.heap.size,1,none⟩ = some (.int .u32 mine):=(blk_cell s0 1).trans rfl
   have hc2:w'.cell? ⟨w.heap.size,2,none⟩ = some (.int .u32 boot):=(blk_cell s0 2).trans rfl
   have hc3:w'.cell? ⟨w.heap.size,3,none⟩ = some (.int .u32 yours):=(blk_cell s0 3).trans rfl
   have hc4:w'.cell? ⟨w.heap.size,4,none⟩ = some (.int .u32 seq):=(blk_cell s0 4).trans rfl
   have hc5:w'.cell? ⟨w.heap.size,5,none⟩ = some (.int .u32 ack):=(blk_cell s0 5).trans rfl
   have hc6:w'.cell? ⟨w.heap.size,6,none⟩ = some (.int .u32 stamp):=(blk_cell s0 6).trans rfl
   have hc7:w'.cell? ⟨w.heap.size,7,none⟩ = some (.int .u32 echo):=(blk_cell s0 7).trans rfl
   have hc8:w'.cell? ⟨w.heap.size,8,none⟩ = some (.complex .f64 zr zi):=(blk_cell s0 8).trans rfl
   have hc9:w'.cell? ⟨w.heap.size,9,none⟩ = some (.slice A n c):=(blk_cell s0 9).trans rfl
   clear s0
   go_simp
   with_reducible rfl
  rotate_left
  ·simp only [Act.put,sA,sZ,sS]
   rfl
  refine pure_ (i:=2) (N:=some 22) (v:=?_) (a':=?_) M2l rfl rfl (by kernel_rfl) (fun _ _ _ h => h) (Or.inl ⟨by rfl,?_⟩) ?_ ?_
  rotate_left
  ·intro w'
   go_simp
   with_reducible rfl
  rotate_left
  ·simp only [Act.put,sA,sZ,sS]
   rfl
  refine take_ (i:=3) (N:=some 23) (v:=?_) (a':=?_) M2q rfl rfl (by kernel_rfl) (fun _ _ _ h => h) (Or.inl ⟨by rfl,?_⟩) hHeld ?_ ?_
  rotate_left
  ·intro w' s0
   have hc0:w'.cell? ⟨w.heap.size,0,none⟩ = some (.int .i64 1):=(blk_cell s0 0).trans rfl
   clear s0
   go_simp
   with_reducible rfl
  rotate_left
  ·simp only [Act.put,sA,sZ,sS]
   rfl
  refine one_ (i:=1) (N:=some 21) M2u rfl rfl (by kernel_rfl) (by decide) (fun K hK => ?_)
  refine goes_ Try.func59 (by kernel_rfl) rfl #[] (by rfl) rfl rfl (by (try simp only [List.map_toArray,List.map_cons,List.map_nil]); first | done | rfl) ?_
  refine (rows_any _).mono ?_
  rintro e w' ⟨rfl,hb⟩
  refine ⟨_,rfl,?_⟩
  have HW2:=Lib.hid (HW.out.trans (hb.mono HW.out.size))
  clear HW
  have HW:=HW2
  clear HW2
  have hs9:=(hb.block w.heap.size (blk_lt hHeld)).trans hHeld
  clear hb
  refine hK.out _ _ (hs9) (fun hHeld => ?_)
  clear hK K
  refine norm_ (a':=?_) ?_ ?_
  rotate_left
  ·show Act.put _ (some 21) _ = _
   simp only [Act.put,sA,sZ,sS]
   rfl
  refine pure_ (i:=4) (N:=some 24) (v:=?_) (a':=?_) M2y rfl rfl (by kernel_rfl) (fun _ _ _ h => h) (Or.inl ⟨by rfl,?_⟩) ?_ ?_
  rotate_left
  ·intro w'
   go_simp
   with_reducible rfl
  rotate_left
  ·simp only [Act.put,sA,sZ,sS]
   rfl
  refine one_ (i:=5) (N:=some 25) M2B rfl rfl (by kernel_rfl) (by decide) (fun K hK => ?_)
  refine goes_ Try.func66 (by kernel_rfl) rfl #[.agg #[.int .i64 1,.int .u32 mine,.int .u32 boot,.int .u32 yours,.int .u32 seq,.int .u32 ack,.int .u32 stamp,.int .u32 echo,.complex .f64 zr zi,.slice A n c],.agg #[.bool true,.bool false,.bool false,.bool false,.int .i64 14,.int .i64 14]] (by rfl) rfl rfl (by (try simp only [List.map_toArray,List.map_cons,List.map_nil]); first | done | rfl) ?_
  refine (good_hello _ _ _ _ _ _ _ zr zi A n c _).mono ?_
  rintro e w' ⟨rfl,hb⟩
  refine ⟨_,rfl,?_⟩
  have HW2:=Lib.hid (HW.out.trans (hb.mono HW.out.size))
  clear HW
  have HW:=HW2
  clear HW2
  have hs9:=(hb.block w.heap.size (blk_lt hHeld)).trans hHeld
  clear hb
  rw [HG.out]
  refine hK.out _ _ (hs9) (fun hHeld => ?_)
  clear hK K
  refine norm_ (a':=?_) ?_ ?_
  rotate_left
  ·show Act.put _ (some 25) _ = _
   simp only [Act.put,sA,sZ,sS]
   rfl
  refine pure_ (i:=6) (N:=some 26) (v:=?_) (a':=?_) M2E rfl rfl (by kernel_rfl) (fun _ _ _ h => h) (Or.inl ⟨by rfl,?_⟩) ?_ ?_
  rotate_left
  ·intro w'
   go_simp
   with_reducible rfl
  rotate_left
  ·simp only [Act.put,sA,sZ,sS]
   rfl
  refine done_ (by kernel_rfl) ?_
  go_wp2
  go_ret
  exact ⟨rfl,HW.out⟩
set_option maxRecDepth 100000 in
set_option maxHeartbeats 4000000 in
theorem check_data (mine boot yours seq ack stamp echo:Int) (zr zi:Nat) (A:Option Addr) (n c:Nat) (w:World) (hn:n ≤ 1000) :
  Calls Try.prog 20 #[.agg #[.int .i64 2,.int .u32 mine,.int .u32 boot,.int .u32 yours,.int .u32 seq,.int .u32 ack,.int .u32 stamp,.int .u32 echo,.complex .f64 zr zi,.slice A n c]] w
   fun e w' => e = .returned (.int .i64 (if good2 mine boot yours stamp echo zr zi n = true then 0 else 101)) ∧ Below w.heap.size w w':=by
 have hu27:=Try.underlying27
 have hix:=ix2
 cases hg:good2 mine boot yours stamp echo zr zi n
 all_goals
  have HG:=Lib.hid hg
  clear hg
  go_enter Try.func20,Try.ntmps20
  go_wp2_with fail
  have HB:=Lib.hid (heap_alloc_new w (.cells #[.int .i64 2,.int .u32 mine,.int .u32 boot,.int .u32 yours,.int .u32 seq,.int .u32 ack,.int .u32 stamp,.int .u32 echo,.complex .f64 zr zi,.slice A n c] 27))
  have HW:=Lib.hid (bl_drew ((Below.refl w.heap.size w).alloc (Nat.le_refl _) (.cells #[.int .i64 2,.int .u32 mine,.int .u32 boot,.int .u32 yours,.int .u32 seq,.int .u32 ack,.int .u32 stamp,.int .u32 echo,.complex .f64 zr zi,.slice A n c] 27)))
  refine start_ (n:=7) (S:=fun w' => w'.heap[w.heap.size]? = some (.cells #[.int .i64 2,.int .u32 mine,.int .u32 boot,.int .u32 yours,.int .u32 seq,.int .u32 ack,.int .u32 stamp,.int .u32 echo,.complex .f64 zr zi,.slice A n c] 27 (0,0))) (ds:=[]) M2c (by kernel_rfl) rfl rfl (HB.out) (fun hHeld => ?_)
  generalize (w.alloc (.cells #[.int .i64 2,.int .u32 mine,.int .u32 boot,.int .u32 yours,.int .u32 seq,.int .u32 ack,.int .u32 stamp,.int .u32 echo,.complex .f64 zr zi,.slice A n c] 27)).drew = w1 at HW hHeld ⊢
  refine take_ (i:=0) (N:=some 20) (v:=?_) (a':=?_) M2g rfl rfl (by kernel_rfl) (fun _ _ _ h => h) (Or.inl ⟨by rfl,?_⟩) hHeld ?_ ?_
  rotate_left
  ·intro w' s0
   have hc0:w'.cell? ⟨w.heap.size,0,none⟩ = some (.int .i64 2):=(blk_cell s0 0).trans rfl
   have hc1:w'.cell? ⟨w.heap.size,1,none⟩ = some (.int .u32 mine):=(blk_cell s0 1).trans rfl
   have hc2:w'.cell? ⟨w.heap.size,2,none⟩ = some (.int .u32 boot):=(blk_cell s0 2).trans rfl
   have hc3:w'.cell? ⟨w.heap.size,3,none⟩ = some (.int .u32 yours):=(blk_cell s0 3).trans rfl
   have hc4:w'.cell? ⟨w.heap.size,4,none⟩ = some (.int .u32 seq):=(blk_cell s0 4).trans rfl
   have hc5:w'.cell? ⟨w.heap.size,5,none⟩ = some (.int .u32 ack):=(blk_cell s0 5).trans rfl
   have hc6:w'.cell? ⟨w.heap.size,6,none⟩ = some (.int .u32 stamp):=(blk_cell s0 6).trans rfl
   have hc7:w'.cell? ⟨w.heap.size,7,none⟩ = some (.int .u32 echo):=(blk_cell s0 7).trans rfl
   have hc8:w'.cell? ⟨w.heap.size,8,none⟩ = some (.complex .f64 zr zi):=(blk_cell s0 8).trans rfl
   have hc9:w'.cell? ⟨w.heap.size,9,none⟩ = some (.slice A n c):=(blk_cell s0 9).trans rfl
   clear s0
   go_simp
   with_reducible rfl
  rotate_left
  ·simp only [Act.put,sA,sZ,sS]
   rfl
  refine pure_ (i:=2) (N:=some 22) (v:=?_) (a':=?_) M2l rfl rfl (by kernel_rfl) (fun _ _ _ h => h) (Or.inl ⟨by rfl,?_⟩) ?_ ?_
  rotate_left
  ·intro w'
   go_simp
   with_reducible rfl
  rotate_left
  ·simp only [Act.put,sA,sZ,sS]
   rfl
  refine take_ (i:=3) (N:=some 23) (v:=?_) (a':=?_) M2q rfl rfl (by kernel_rfl) (fun _ _ _ h => h) (Or.inl ⟨by rfl,?_⟩) hHeld ?_ ?_
  rotate_left
  ·intro w' s0
   have hc0:w'.cell? ⟨w.heap.size,0,none⟩ = some (.int .i64 2):=(blk_cell s0 0).trans rfl
   clear s0
   go_simp
   with_reducible rfl
  rotate_left
  ·simp only [Act.put,sA,sZ,sS]
   rfl
  refine one_ (i:=1) (N:=some 21) M2u rfl rfl (by kernel_rfl) (by decide) (fun K hK => ?_)
  refine goes_ Try.func59 (by kernel_rfl) rfl #[] (by rfl) rfl rfl (by (try simp only [List.map_toArray,List.map_cons,List.map_nil]); first | done | rfl) ?_
  refine (rows_any _).mono ?_
  rintro e w' ⟨rfl,hb⟩
  refine ⟨_,rfl,?_⟩
  have HW2:=Lib.hid (HW.out.trans (hb.mono HW.out.size))
  clear HW
  have HW:=HW2
  clear HW2
  have hs9:=(hb.block w.heap.size (blk_lt hHeld)).trans hHeld
  clear hb
  refine hK.out _ _ (hs9) (fun hHeld => ?_)
  clear hK K
  refine norm_ (a':=?_) ?_ ?_
  rotate_left
  ·show Act.put _ (some 21) _ = _
   simp only [Act.put,sA,sZ,sS]
   rfl
  refine pure_ (i:=4) (N:=some 24) (v:=?_) (a':=?_) M2y rfl rfl (by kernel_rfl) (fun _ _ _ h => h) (Or.inl ⟨by rfl,?_⟩) ?_ ?_
  rotate_left
  ·intro w'
   go_simp
   with_reducible rfl
  rotate_left
  ·simp only [Act.put,sA,sZ,sS]
   rfl
  refine one_ (i:=5) (N:=some 25) M2B rfl rfl (by kernel_rfl) (by decide) (fun K hK => ?_)
  refine goes_ Try.func66 (by kernel_rfl) rfl #[.agg #[.int .i64 2,.int .u32 mine,.int .u32 boot,.int .u32 yours,.int .u32 seq,.int .u32 ack,.int .u32 stamp,.int .u32 echo,.complex .f64 zr zi,.slice A n c],.agg #[.bool true,.bool true,.bool false,.bool true,.int .i64 22,.int .i64 1021]] (by rfl) rfl rfl (by (try simp only [List.map_toArray,List.map_cons,List.map_nil]); first | done | rfl) ?_
  refine (good_data _ _ _ _ _ _ _ zr zi A n c _).mono ?_
  rintro e w' ⟨rfl,hb⟩
  refine ⟨_,rfl,?_⟩
  have HW2:=Lib.hid (HW.out.trans (hb.mono HW.out.size))
  clear HW
  have HW:=HW2
  clear HW2
  have hs9:=(hb.block w.heap.size (blk_lt hHeld)).trans hHeld
  clear hb
  rw [HG.out]
  refine hK.out _ _ (hs9) (fun hHeld => ?_)
  clear hK K
  refine norm_ (a':=?_) ?_ ?_
  rotate_left
  ·show Act.put _ (some 25) _ = _
   simp only [Act.put,sA,sZ,sS]
   rfl
  refine pure_ (i:=6) (N:=some 26) (v:=?_) (a':=?_) M2E rfl rfl (by kernel_rfl) (fun _ _ _ h => h) (Or.inl ⟨by rfl,?_⟩) ?_ ?_
  rotate_left
  ·intro w'
   go_simp
   with_reducible rfl
  rotate_left
  ·simp only [Act.put,sA,sZ,sS]
   rfl
  refine done_ (by kernel_rfl) ?_
  go_wp2
  go_ret
  exact ⟨rfl,HW.out⟩
set_option maxRecDepth 100000 in
set_option maxHeartbeats 4000000 in
theorem check_ack (mine boot yours seq ack stamp echo:Int) (zr zi:Nat) (A:Option Addr) (n c:Nat) (w:World) :
  Calls Try.prog 20 #[.agg #[.int .i64 3,.int .u32 mine,.int .u32 boot,.int .u32 yours,.int .u32 seq,.int .u32 ack,.int .u32 stamp,.int .u32 echo,.complex .f64 zr zi,.slice A n c]] w
   fun e w' => e = .returned (.int .i64 (if good3 mine boot yours seq stamp echo zr zi n = true then 0 else 101)) ∧ Below w.heap.size w w':=by
 have hu27:=Try.underlying27
 have hix:=ix3
 cases hg:good3 mine boot yours seq stamp echo zr zi n
 all_goals
  have HG:=Lib.hid hg
  clear hg
  go_enter Try.func20,Try.ntmps20
  go_wp2_with fail
  have HB:=Lib.hid (heap_alloc_new w (.cells #[.int .i64 3,.int .u32 mine,.int .u32 boot,.int .u32 yours,.int .u32 seq,.int .u32 ack,.int .u32 stamp,.int .u32 echo,.complex .f64 zr zi,.slice A n c] 27))
  have HW:=Lib.hid (bl_drew ((Below.refl w.heap.size w).alloc (Nat.le_refl _) (.cells #[.int .i64 3,.int .u32 mine,.int .u32 boot,.int .u32 yours,.int .u32 seq,.int .u32 ack,.int .u32 stamp,.int .u32 echo,.complex .f64 zr zi,.slice A n c] 27)))
  refine start_ (n:=7) (S:=fun w' => w'.heap[w.heap.size]? = some (.cells #[.int .i64 3,.int .u32 mine,.int .u32 boot,.int .u32 yours,.int .u32 seq,.int .u32 ack,.int .u32 stamp,.int .u32 echo,.complex .f64 zr zi,.slice A n c] 27 (0,0))) (ds:=[]) M2c (by kernel_rfl) rfl rfl (HB.out) (fun hHeld => ?_)
  generalize (w.alloc (.cells #[.int .i64 3,.int .u32 mine,.int .u32 boot,.int .u32 yours,.int .u32 seq,.int .u32 ack,.int .u32 stamp,.int .u32 echo,.complex .f64 zr zi,.slice A n c] 27)).drew = w1 at HW hHeld ⊢
  refine take_ (i:=0) (N:=some 20) (v:=?_) (a':=?_) M2g rfl rfl (by kernel_rfl) (fun _ _ _ h => h) (Or.inl ⟨by rfl,?_⟩) hHeld ?_ ?_
  rotate_left
  ·intro w' s0
   have hc0:w'.cell? ⟨w.heap.size,0,none⟩ = some (.int .i64 3):=(blk_cell s0 0).trans rfl
   have hc1:w'.cell? ⟨w.heap.size,1,none⟩ = some (.int .u32 mine):=(blk_cell s0 1).trans rfl
   have hc2:w'.cell? ⟨w.heap.size,2,none⟩ = some (.int .u32 boot):=(blk_cell s0 2).trans rfl
   have hc3:w'.cell? ⟨w.heap.size,3,none⟩ = some (.int .u32 yours):=(blk_cell s0 3).trans rfl
   have hc4:w'.cell? ⟨w.heap.size,4,none⟩ = some (.int .u32 seq):=(blk_cell s0 4).trans rfl
   have hc5:w'.cell? ⟨w.heap.size,5,none⟩ = some (.int .u32 ack):=(blk_cell s0 5).trans rfl
   have hc6:w'.cell? ⟨w.heap.size,6,none⟩ = some (.int .u32 stamp):=(blk_cell s0 6).trans rfl
   have hc7:w'.cell? ⟨w.heap.size,7,none⟩ = some (.int .u32 echo):=(blk_cell s0 7).trans rfl
   have hc8:w'.cell? ⟨w.heap.size,8,none⟩ = some (.complex .f64 zr zi):=(blk_cell s0 8).trans rfl
   have hc9:w'.cell? ⟨w.heap.size,9,none⟩ = some (.slice A n c):=(blk_cell s0 9).trans rfl
   clear s0
   go_simp
   with_reducible rfl
  rotate_left
  ·simp only [Act.put,sA,sZ,sS]
   rfl
  refine pure_ (i:=2) (N:=some 22) (v:=?_) (a':=?_) M2l rfl rfl (by kernel_rfl) (fun _ _ _ h => h) (Or.inl ⟨by rfl,?_⟩) ?_ ?_
  rotate_left
  ·intro w'
   go_simp
   with_reducible rfl
  rotate_left
  ·simp only [Act.put,sA,sZ,sS]
   rfl
  refine take_ (i:=3) (N:=some 23) (v:=?_) (a':=?_) M2q rfl rfl (by kernel_rfl) (fun _ _ _ h => h) (Or.inl ⟨by rfl,?_⟩) hHeld ?_ ?_
  rotate_left
  ·intro w' s0
   have hc0:w'.cell? ⟨w.heap.size,0,none⟩ = some (.int .i64 3):=(blk_cell s0 0).trans rfl
   clear s0
   go_simp
   with_reducible rfl
  rotate_left
  ·simp only [Act.put,sA,sZ,sS]
   rfl
  refine one_ (i:=1) (N:=some 21) M2u rfl rfl (by kernel_rfl) (by decide) (fun K hK => ?_)
  refine goes_ Try.func59 (by kernel_rfl) rfl #[] (by rfl) rfl rfl (by (try simp only [List.map_toArray,List.map_cons,List.map_nil]); first | done | rfl) ?_
  refine (rows_any _).mono ?_
  rintro e w' ⟨rfl,hb⟩
  refine ⟨_,rfl,?_⟩
  have HW2:=Lib.hid (HW.out.trans (hb.mono HW.out.size))
  clear HW
  have HW:=HW2
  clear HW2
  have hs9:=(hb.block w.heap.size (blk_lt hHeld)).trans hHeld
  clear hb
  refine hK.out _ _ (hs9) (fun hHeld => ?_)
  clear hK K
  refine norm_ (a':=?_) ?_ ?_
  rotate_left
  ·show Act.put _ (some 21) _ = _
   simp only [Act.put,sA,sZ,sS]
   rfl
  refine pure_ (i:=4) (N:=some 24) (v:=?_) (a':=?_) M2y rfl rfl (by kernel_rfl) (fun _ _ _ h => h) (Or.inl ⟨by rfl,?_⟩) ?_ ?_
  rotate_left
  ·intro w'
   go_simp
   with_reducible rfl
  rotate_left
  ·simp only [Act.put,sA,sZ,sS]
   rfl
  refine one_ (i:=5) (N:=some 25) M2B rfl rfl (by kernel_rfl) (by decide) (fun K hK => ?_)
  refine goes_ Try.func66 (by kernel_rfl) rfl #[.agg #[.int .i64 3,.int .u32 mine,.int .u32 boot,.int .u32 yours,.int .u32 seq,.int .u32 ack,.int .u32 stamp,.int .u32 echo,.complex .f64 zr zi,.slice A n c],.agg #[.bool false,.bool true,.bool false,.bool false,.int .i64 17,.int .i64 17]] (by rfl) rfl rfl (by (try simp only [List.map_toArray,List.map_cons,List.map_nil]); first | done | rfl) ?_
  refine (good_ack _ _ _ _ _ _ _ zr zi A n c _).mono ?_
  rintro e w' ⟨rfl,hb⟩
  refine ⟨_,rfl,?_⟩
  have HW2:=Lib.hid (HW.out.trans (hb.mono HW.out.size))
  clear HW
  have HW:=HW2
  clear HW2
  have hs9:=(hb.block w.heap.size (blk_lt hHeld)).trans hHeld
  clear hb
  rw [HG.out]
  refine hK.out _ _ (hs9) (fun hHeld => ?_)
  clear hK K
  refine norm_ (a':=?_) ?_ ?_
  rotate_left
  ·show Act.put _ (some 25) _ = _
   simp only [Act.put,sA,sZ,sS]
   rfl
  refine pure_ (i:=6) (N:=some 26) (v:=?_) (a':=?_) M2E rfl rfl (by kernel_rfl) (fun _ _ _ h => h) (Or.inl ⟨by rfl,?_⟩) ?_ ?_
  rotate_left
  ·intro w'
   go_simp
   with_reducible rfl
  rotate_left
  ·simp only [Act.put,sA,sZ,sS]
   rfl
  refine done_ (by kernel_rfl) ?_
  go_wp2
  go_ret
  exact ⟨rfl,HW.out⟩
set_option maxRecDepth 100000 in
set_option maxHeartbeats 4000000 in
theorem check_beat (mine boot yours seq ack stamp echo:Int) (zr zi:Nat) (A:Option Addr) (n c:Nat) (w:World) (hp:zr < 18446744073709551616) (hq:zi < 18446744073709551616) :
  Calls Try.prog 20 #[.agg #[.int .i64 4,.int .u32 mine,.int .u32 boot,.int .u32 yours,.int .u32 seq,.int .u32 ack,.int .u32 stamp,.int .u32 echo,.complex .f64 zr zi,.slice A n c]] w
   fun e w' => e = .returned (.int .i64 (if good4 mine boot yours seq zr zi n = true then 0 else 101)) ∧ Below w.heap.size w w':=by
 have hu27:=Try.underlying27
 have hix:=ix4
 cases hg:good4 mine boot yours seq zr zi n
 all_goals
  have HG:=Lib.hid hg
  clear hg
  have HP:=Lib.hid hp
  have HQ:=Lib.hid hq
  clear hp hq
  go_enter Try.func20,Try.ntmps20
  go_wp2_with fail
  have HB:=Lib.hid (heap_alloc_new w (.cells #[.int .i64 4,.int .u32 mine,.int .u32 boot,.int .u32 yours,.int .u32 seq,.int .u32 ack,.int .u32 stamp,.int .u32 echo,.complex .f64 zr zi,.slice A n c] 27))
  have HW:=Lib.hid (bl_drew ((Below.refl w.heap.size w).alloc (Nat.le_refl _) (.cells #[.int .i64 4,.int .u32 mine,.int .u32 boot,.int .u32 yours,.int .u32 seq,.int .u32 ack,.int .u32 stamp,.int .u32 echo,.complex .f64 zr zi,.slice A n c] 27)))
  refine start_ (n:=7) (S:=fun w' => w'.heap[w.heap.size]? = some (.cells #[.int .i64 4,.int .u32 mine,.int .u32 boot,.int .u32 yours,.int .u32 seq,.int .u32 ack,.int .u32 stamp,.int .u32 echo,.complex .f64 zr zi,.slice A n c] 27 (0,0))) (ds:=[]) M2c (by kernel_rfl) rfl rfl (HB.out) (fun hHeld => ?_)
  generalize (w.alloc (.cells #[.int .i64 4,.int .u32 mine,.int .u32 boot,.int .u32 yours,.int .u32 seq,.int .u32 ack,.int .u32 stamp,.int .u32 echo,.complex .f64 zr zi,.slice A n c] 27)).drew = w1 at HW hHeld ⊢
  refine take_ (i:=0) (N:=some 20) (v:=?_) (a':=?_) M2g rfl rfl (by kernel_rfl) (fun _ _ _ h => h) (Or.inl ⟨by rfl,?_⟩) hHeld ?_ ?_
  rotate_left
  ·intro w' s0
   have hc0:w'.cell? ⟨w.heap.size,0,none⟩ = some (.int .i64 4):=(blk_cell s0 0).trans rfl
   have hc1:w'.cell? ⟨w.heap.size,1,none⟩ = some (.int .u32 mine):=(blk_cell s0 1).trans rfl
   have hc2:w'.cell? ⟨w.heap.size,2,none⟩ = some (.int .u32 boot):=(blk_cell s0 2).trans rfl
   have hc3:w'.cell? ⟨w.heap.size,3,none⟩ = some (.int .u32 yours):=(blk_cell s0 3).trans rfl
   have hc4:w'.cell? ⟨w.heap.size,4,none⟩ = some (.int .u32 seq):=(blk_cell s0 4).trans rfl
   have hc5:w'.cell? ⟨w.heap.size,5,none⟩ = some (.int .u32 ack):=(blk_cell s0 5).trans rfl
   have hc6:w'.cell? ⟨w.heap.size,6,none⟩ = some (.int .u32 stamp):=(blk_cell s0 6).trans rfl
   have hc7:w'.cell? ⟨w.heap.size,7,none⟩ = some (.int .u32 echo):=(blk_cell s0 7).trans rfl
   have hc8:w'.cell? ⟨w.heap.size,8,none⟩ = some (.complex .f64 zr zi):=(blk_cell s0 8).trans rfl
   have hc9:w'.cell? ⟨w.heap.size,9,none⟩ = some (.slice A n c):=(blk_cell s0 9).trans rfl
   clear s0
   go_simp
   with_reducible rfl
  rotate_left
  ·simp only [Act.put,sA,sZ,sS]
   rfl
  refine pure_ (i:=2) (N:=some 22) (v:=?_) (a':=?_) M2l rfl rfl (by kernel_rfl) (fun _ _ _ h => h) (Or.inl ⟨by rfl,?_⟩) ?_ ?_
  rotate_left
  ·intro w'
   go_simp
   with_reducible rfl
  rotate_left
  ·simp only [Act.put,sA,sZ,sS]
   rfl
  refine take_ (i:=3) (N:=some 23) (v:=?_) (a':=?_) M2q rfl rfl (by kernel_rfl) (fun _ _ _ h => h) (Or.inl ⟨by rfl,?_⟩) hHeld ?_ ?_
  rotate_left
  ·intro w' s0
   have hc0:w'.cell? ⟨w.heap.size,0,none⟩ = some (.int .i64 4):=(blk_cell s0 0).trans rfl
   clear s0
   go_simp
   with_reducible rfl
  rotate_left
  ·simp only [Act.put,sA,sZ,sS]
   rfl
  refine one_ (i:=1) (N:=some 21) M2u rfl rfl (by kernel_rfl) (by decide) (fun K hK => ?_)
  refine goes_ Try.func59 (by kernel_rfl) rfl #[] (by rfl) rfl rfl (by (try simp only [List.map_toArray,List.map_cons,List.map_nil]); first | done | rfl) ?_
  refine (rows_any _).mono ?_
  rintro e w' ⟨rfl,hb⟩
  refine ⟨_,rfl,?_⟩
  have HW2:=Lib.hid (HW.out.trans (hb.mono HW.out.size))
  clear HW
  have HW:=HW2
  clear HW2
  have hs9:=(hb.block w.heap.size (blk_lt hHeld)).trans hHeld
  clear hb
  refine hK.out _ _ (hs9) (fun hHeld => ?_)
  clear hK K
  refine norm_ (a':=?_) ?_ ?_
  rotate_left
  ·show Act.put _ (some 21) _ = _
   simp only [Act.put,sA,sZ,sS]
   rfl
  refine pure_ (i:=4) (N:=some 24) (v:=?_) (a':=?_) M2y rfl rfl (by kernel_rfl) (fun _ _ _ h => h) (Or.inl ⟨by rfl,?_⟩) ?_ ?_
  rotate_left
  ·intro w'
   go_simp
   with_reducible rfl
  rotate_left
  ·simp only [Act.put,sA,sZ,sS]
   rfl
  refine one_ (i:=5) (N:=some 25) M2B rfl rfl (by kernel_rfl) (by decide) (fun K hK => ?_)
  refine goes_ Try.func66 (by kernel_rfl) rfl #[.agg #[.int .i64 4,.int .u32 mine,.int .u32 boot,.int .u32 yours,.int .u32 seq,.int .u32 ack,.int .u32 stamp,.int .u32 echo,.complex .f64 zr zi,.slice A n c],.agg #[.bool false,.bool true,.bool true,.bool false,.int .i64 41,.int .i64 41]] (by rfl) rfl rfl (by (try simp only [List.map_toArray,List.map_cons,List.map_nil]); first | done | rfl) ?_
  refine (good_beat _ _ _ _ _ _ _ zr zi A n c _ HP.out HQ.out).mono ?_
  rintro e w' ⟨rfl,hb⟩
  refine ⟨_,rfl,?_⟩
  have HW2:=Lib.hid (HW.out.trans (hb.mono HW.out.size))
  clear HW
  have HW:=HW2
  clear HW2
  have hs9:=(hb.block w.heap.size (blk_lt hHeld)).trans hHeld
  clear hb
  rw [HG.out]
  refine hK.out _ _ (hs9) (fun hHeld => ?_)
  clear hK K
  refine norm_ (a':=?_) ?_ ?_
  rotate_left
  ·show Act.put _ (some 25) _ = _
   simp only [Act.put,sA,sZ,sS]
   rfl
  refine pure_ (i:=6) (N:=some 26) (v:=?_) (a':=?_) M2E rfl rfl (by kernel_rfl) (fun _ _ _ h => h) (Or.inl ⟨by rfl,?_⟩) ?_ ?_
  rotate_left
  ·intro w'
   go_simp
   with_reducible rfl
  rotate_left
  ·simp only [Act.put,sA,sZ,sS]
   rfl
  refine done_ (by kernel_rfl) ?_
  go_wp2
  go_ret
  exact ⟨rfl,HW.out⟩
def checkP (kind mine boot yours seq ack stamp echo:Int) (zr zi n:Nat):Int :=
 if kind = 1 then (if good1 mine boot yours seq ack stamp echo zr zi n = true then 0 else 101)
 else if kind = 2 then (if 1000 < n then 102 else if good2 mine boot yours stamp echo zr zi n = true then 0 else 101)
 else if kind = 3 then (if good3 mine boot yours seq stamp echo zr zi n = true then 0 else 101)
 else if kind = 4 then (if good4 mine boot yours seq zr zi n = true then 0 else 101)
 else 100
set_option maxRecDepth 100000 in
set_option maxHeartbeats 4000000 in
theorem check_less (kind mine boot yours seq ack stamp echo:Int) (zr zi:Nat) (A:Option Addr) (n c:Nat) (w:World) (h:kind < 1) :
  Calls Try.prog 20 #[.agg #[.int .i64 kind,.int .u32 mine,.int .u32 boot,.int .u32 yours,.int .u32 seq,.int .u32 ack,.int .u32 stamp,.int .u32 echo,.complex .f64 zr zi,.slice A n c]] w
   fun e w' => e = .returned (.int .i64 100) ∧ Below w.heap.size w w':=by
 go_enter Try.func20,Try.ntmps20
 go_wp2
 go_ret
 exact ⟨rfl,(Below.refl w.heap.size w).alloc (Nat.le_refl _) _⟩
set_option maxRecDepth 100000 in
set_option maxHeartbeats 4000000 in
theorem check_more (kind mine boot yours seq ack stamp echo:Int) (zr zi:Nat) (A:Option Addr) (n c:Nat) (w:World) (h:4 < kind) :
  Calls Try.prog 20 #[.agg #[.int .i64 kind,.int .u32 mine,.int .u32 boot,.int .u32 yours,.int .u32 seq,.int .u32 ack,.int .u32 stamp,.int .u32 echo,.complex .f64 zr zi,.slice A n c]] w
   fun e w' => e = .returned (.int .i64 100) ∧ Below w.heap.size w w':=by
 go_enter Try.func20,Try.ntmps20
 go_wp2
 go_ret
 exact ⟨rfl,(Below.refl w.heap.size w).alloc (Nat.le_refl _) _⟩
set_option maxRecDepth 100000 in
set_option maxHeartbeats 4000000 in
theorem check_long (mine boot yours seq ack stamp echo:Int) (zr zi:Nat) (A:Option Addr) (n c:Nat) (w:World) (h:1000 < n) :
  Calls Try.prog 20 #[.agg #[.int .i64 2,.int .u32 mine,.int .u32 boot,.int .u32 yours,.int .u32 seq,.int .u32 ack,.int .u32 stamp,.int .u32 echo,.complex .f64 zr zi,.slice A n c]] w
   fun e w' => e = .returned (.int .i64 102) ∧ Below w.heap.size w w':=by
 go_enter Try.func20,Try.ntmps20
 go_wp2
 go_ret
 exact ⟨rfl,(Below.refl w.heap.size w).alloc (Nat.le_refl _) _⟩
theorem check_any (kind mine boot yours seq ack stamp echo:Int) (zr zi:Nat) (A:Option Addr) (n c:Nat) (w:World) (hp:zr < 18446744073709551616) (hq:zi < 18446744073709551616) :
  Calls Try.prog 20 #[.agg #[.int .i64 kind,.int .u32 mine,.int .u32 boot,.int .u32 yours,.int .u32 seq,.int .u32 ack,.int .u32 stamp,.int .u32 echo,.complex .f64 zr zi,.slice A n c]] w
   fun e w' => e = .returned (.int .i64 (checkP kind mine boot yours seq ack stamp echo zr zi n)) ∧ Below w.heap.size w w':=by
 unfold checkP
 by_cases h1:kind = 1
 ·subst h1
  rw [if_pos rfl]
  exact check_hello mine boot yours seq ack stamp echo zr zi A n c w
 rw [if_neg h1]
 by_cases h2:kind = 2
 ·subst h2
  rw [if_pos rfl]
  by_cases hn:1000 < n
  ·rw [if_pos hn]
   exact check_long mine boot yours seq ack stamp echo zr zi A n c w hn
  ·rw [if_neg hn]
   exact check_data mine boot yours seq ack stamp echo zr zi A n c w (by omega)
 rw [if_neg h2]
 by_cases h3:kind = 3
 ·subst h3
  rw [if_pos rfl]
  exact check_ack mine boot yours seq ack stamp echo zr zi A n c w
 rw [if_neg h3]
 by_cases h4:kind = 4
 ·subst h4
  rw [if_pos rfl]
  exact check_beat mine boot yours seq ack stamp echo zr zi A n c w hp hq
 rw [if_neg h4]
 by_cases h5:kind < 1
 ·exact check_less kind mine boot yours seq ack stamp echo zr zi A n c w h5
 ·exact check_more kind mine boot yours seq ack stamp echo zr zi A n c w (by omega)
end Go.Proofs.Ytnkkgofpifhoeaa.Pk
end
section
namespace Go.Proofs.Ytnkkgofpifhoeaa.Lk
open Go.RowKit Go.Proofs.Ytnkkgofpifhoeaa.Base Go.Proofs.Ytnkkgofpifhoeaa.Steps Go.Proofs.YtnkkgofpifhoeaaW.PrintWords Go.Proofs.YtnkkgofpifhoeaaW.PrintLast
structure TS (w:World) (B:Nat) (S:Nat → Prop) (g:Nat) (pc:Array Value) (okq oko okb:Nat → Prop) (L:Lk) (q o:Value) (hd up dn:Bool) (vb:Value) (body:List Int) (wz:World):Prop where
 at_:At wz B okq oko g L q o
 pb:wz.heap[w.heap.size]? = some (.cells pc 27 (0,0))
 tb:wz.heap[w.heap.size + 1]? = some (.cells #[.bool hd,.bool up,.bool dn,vb] 56 (0,0))
 kept:Kept w wz S
 below:Below B w wz
 far:∀ k,okq k ∨ oko k → (S k ∧ k < w.heap.size) ∨ w.heap.size + 2 ≤ k
 gS:S g
 glt:g < w.heap.size
 brow:(Kd.int .u8).R 5 wz B okb vb body
 okb:∀ k,okb k → w.heap.size + 2 ≤ k ∧ k < wz.heap.size ∧ ¬ okq k ∧ ¬ oko k
theorem slice45 (A:Option Addr) (n c k:Nat) (hk:k ≤ n) (hc:n ≤ c) (W:World):(Instr.slice 45 (.slice A n c) (some (.int .u32 (k:Int))) none none).run Try.prog W = .ok (.slice (if c = k then A else A.map (·.add (k * bytes.sz))) (n - k) (c - k)) W:=by
 have hu:Try.prog.underlying 45 = some (.slice (Try.prog.elem 45)):=by kernel_rfl
 have h1:(0:Int) ≤ k:=by omega
 have h2:(k:Int) ≤ n:=by omega
 have e:=run_slice_l (P:=Try.prog) W 45 A n c hu IntKind.u32 (k:Int) h1 h2
 have hs:(sizeOf (Try.prog.elem 45)).run Try.prog W = .ok 1 W:=by
  have:Try.prog.elem 45 = 22:=by kernel_rfl
  rw [this]
  obtain ⟨i0,hi0,_,hsz,_⟩:=info_parts info22
  go_simp
 rw [e,hs]
 rfl
def bumpL (L:Lk):Lk:={ L with expected:=IntKind.u32.wrap (L.expected + 1) }
def cutL (L:Lk) (k:Nat):Lk:={ L with queue:=L.queue.drop k,base:=IntKind.u32.wrap (L.base + k),sent:=L.sent - k,idle:=0 }
def ackP (L:Lk):Pkt:=⟨3,L.token,L.boot,L.yours,0,L.expected,0,0,0,0,[]⟩
theorem wrapU (x:Int):IntKind.u32.wrap x = x % 4294967296:=rfl
theorem wrap32 (x:Int):0 ≤ IntKind.u32.wrap x ∧ IntKind.u32.wrap x < 4294967296:=by rw [wrapU]; omega
theorem bump_ok {L:Lk} (h:L.Ok):(bumpL L).Ok:=⟨h.own,h.phase,h.token,h.boot,h.yours,h.queue,h.rows,h.sent,h.base,wrap32 _,h.idle,h.out⟩
theorem cut_ok {L:Lk} (h:L.Ok) {k:Nat} (hk:(k:Int) ≤ L.sent):(cutL L k).Ok:=by
 have:=h.sent
 have:=h.queue
 refine ⟨h.own,h.phase,h.token,h.boot,h.yours,by show (L.queue.drop k).length ≤ 64; simp; omega,fun r hr => h.rows r (List.mem_of_mem_drop hr),?_,wrap32 _,h.expected,by show 0 ≤ (0:Int) ∧ (0:Int) ≤ 1000; omega,h.out⟩
 show 0 ≤ L.sent - k ∧ L.sent - k ≤ ((L.queue.drop k).length:Int) ∧ L.sent - k ≤ 8
 simp
 omega
structure Pkt.Rng (p:Pkt):Prop where
 mine:0 ≤ p.mine ∧ p.mine < 4294967296
 boot:0 ≤ p.boot ∧ p.boot < 4294967296
 yours:0 ≤ p.yours ∧ p.yours < 4294967296
 seq:0 ≤ p.seq ∧ p.seq < 4294967296
 ack:0 ≤ p.ack ∧ p.ack < 4294967296
 zr:p.zr < 18446744073709551616
 zi:p.zi < 18446744073709551616
theorem peer_ok {L:Lk} (h:L.Ok) {b y:Int} (hb:0 ≤ b ∧ b < 4294967296) (hy:0 ≤ y ∧ y < 4294967296) (k:Bool):({ L with boot:=b,yours:=y,known:=k }:Lk).Ok :=
 ⟨h.own,h.phase,h.token,hb,hy,h.queue,h.rows,h.sent,h.base,h.expected,h.idle,h.out⟩
theorem phase_ok {L:Lk} (h:L.Ok) {b:Int} (hb:0 ≤ b ∧ b ≤ 2):({ L with phase:=b }:Lk).Ok :=
 ⟨h.own,hb,h.token,h.boot,h.yours,h.queue,h.rows,h.sent,h.base,h.expected,h.idle,h.out⟩
def Took (w:World) (B:Nat) (S:Nat → Prop) (g:Nat) (L:Lk) (hd up dn:Bool) (body:List Int) (e:Ending) (w':World):Prop :=
 ∃ vb okb,e = .returned (.tuple #[.agg #[.bool hd,.bool up,.bool dn,vb],.int .i64 0]) ∧ (Kd.int .u8).R 5 w' B okb vb body ∧ (∀ k,okb k → w.heap.size ≤ k ∧ k < w'.heap.size) ∧
  End w' B (fun k => S k ∨ (w.heap.size ≤ k ∧ k < w'.heap.size ∧ ¬ okb k)) g L ∧ Kept w w' S ∧ Below B w w'
section
variable {w wz:World} {B g:Nat} {S okq oko okb:Nat → Prop} {pc:Array Value} {L:Lk} {q o vb:Value} {hd up dn:Bool} {body:List Int}
theorem TS.start (h:At w B okq oko g L q o) (ho:∀ k,holds okq oko g k → S k) (hB:B ≤ w.heap.size) (hb:Below (w.heap.size + 2) ((w.alloc (.cells pc 27)).alloc (.cells #[.bool false,.bool false,.bool false,.slice none 0 0] 56)) wz) :
  TS w B S g pc okq oko (fun _ => False) L q o false false false (.slice none 0 0) [] wz:=by
 have hb0:Below w.heap.size w ((w.alloc (.cells pc 27)).alloc (.cells #[.bool false,.bool false,.bool false,.slice none 0 0] 56)):=((Below.refl _ _).alloc (Nat.le_refl _) _).alloc (by simp) _
 have hb1:Below w.heap.size w wz:=hb0.trans (hb.mono (by omega))
 have hs:(w.alloc (.cells pc 27)).heap.size = w.heap.size + 1:=by simp
 refine ⟨h.below hb1,?_,?_,Kept.of_below hb1 _,hb1.mono hB,fun k hk => .inl ⟨ho k (hk.elim .inl (fun x => .inr (.inl x))),(h.old k hk).1⟩,ho g (.inr (.inr rfl)),blk_lt h.blk,Kd.R_nil _ _ _ _ _,fun k hk => hk.elim⟩
 ·refine (hb.block w.heap.size (by omega)).trans ?_
  refine Eq.trans (b:=(w.alloc (.cells pc 27)).heap[w.heap.size]?) ?_ (heap_alloc_new w _)
  exact Below.heap_alloc _ _ _ (by omega)
 ·refine (hb.block (w.heap.size + 1) (by omega)).trans ?_
  have:=heap_alloc_new (w.alloc (.cells pc 27)) (.cells #[.bool false,.bool false,.bool false,.slice none 0 0] 56)
  rwa [hs] at this
variable (h:TS w B S g pc okq oko okb L q o hd up dn vb body wz)
include h
theorem TS.size:w.heap.size + 2 ≤ wz.heap.size:=by have:=blk_lt h.tb; omega
theorem TS.sub {w2:World} (hB:B ≤ w.heap.size) (hb:Below wz.heap.size wz w2):TS w B S g pc okq oko okb L q o hd up dn vb body w2:=by
 have hs:=h.size
 exact ⟨h.at_.below hb,(hb.block _ (by omega)).trans h.pb,(hb.block _ (by omega)).trans h.tb,h.kept.below hb,h.below.trans (hb.mono (by omega)),h.far,h.gS,h.glt,Kd.R_kept h.brow (Kept.of_below hb (fun _ => False)) (fun _ _ hf => hf),fun k hk => ⟨(h.okb k hk).1,Nat.lt_of_lt_of_le (h.okb k hk).2.1 hb.size,(h.okb k hk).2.2⟩⟩
theorem TS.drewN (hB:B ≤ w.heap.size) (n:Nat):TS w B S g pc okq oko okb L q o hd up dn vb body (wz.drewN n):=h.sub hB (pw_below_drewN (Below.refl _ _) n)
theorem TS.drew (hB:B ≤ w.heap.size):TS w B S g pc okq oko okb L q o hd up dn vb body wz.drew:=h.sub hB (bl_drew (Below.refl _ _))
theorem TS.far1:∀ k,holds okq oko g k → k ≠ w.heap.size + 1 ∧ k ≠ w.heap.size:=fun k hk => by
 have:=h.glt
 rcases hk with hk | hk | hk
 ·rcases h.far k (.inl hk) with x | x <;> omega
 ·rcases h.far k (.inr hk) with x | x <;> omega
 ·omega
theorem TS.setT {w2:World} {hd' up' dn':Bool} {vb':Value} {okb':Nat → Prop} {body':List Int} (hB:B ≤ w.heap.size) (hat:Go.Proofs.Ytnkkgofpifhoeaa.Steps.At (w.heap.size + 1) wz w2) (hc:w2.heap[w.heap.size + 1]? = some (.cells #[.bool hd',.bool up',.bool dn',vb'] 56 (0,0)))
  (hR:(Kd.int .u8).R 5 wz B okb' vb' body') (hokb:∀ k,okb' k → w.heap.size + 2 ≤ k ∧ k < wz.heap.size ∧ ¬ okq k ∧ ¬ oko k):TS w B S g pc okq oko okb' L q o hd' up' dn' vb' body' w2:=by
 have hs:=hat.size
 have hk:Kept wz w2 (fun k => k = w.heap.size + 1):=kept_at' hat
 refine ⟨h.at_.kept hk (fun k hh => (h.far1 k hh).1),(hat.block _ (by omega)).trans h.pb,hc,h.kept.then_ hk (fun k hk => .inr (by omega)),hat.below h.below (by omega),h.far,h.gS,h.glt,Kd.R_kept hR hk (fun k hk => by have:=(hokb k hk).1; omega),fun k hk => ?_⟩
 rw [hs]
 exact hokb k hk
theorem TS.setT1 {hd' up' dn':Bool} (hB:B ≤ w.heap.size) (i:Nat) (u:Value) (e:(#[Value.bool hd,Value.bool up,Value.bool dn,vb]:Array Value).setIfInBounds i u = #[.bool hd',.bool up',.bool dn',vb]):TS w B S g pc okq oko okb L q o hd' up' dn' vb body (wz.setCell ⟨w.heap.size + 1,i,none⟩ u) :=
 h.setT hB (Steps.At.set (Steps.At.refl _ _) i u) (blk_put h.tb i u e) h.brow h.okb
theorem TS.setL {w2:World} {okq':Nat → Prop} {L':Lk} {q':Value} (hB:B ≤ w.heap.size) (hat:Go.Proofs.Ytnkkgofpifhoeaa.Steps.At g wz w2) (ha:At w2 B okq' oko g L' q' o) (hq:∀ k,okq' k → okq k):TS w B S g pc okq' oko okb L' q' o hd up dn vb body w2:=by
 have hk:Kept wz w2 (fun k => k = g):=kept_at' hat
 have hg:=h.glt
 refine ⟨ha,(hat.block _ (by omega)).trans h.pb,(hat.block _ (by omega)).trans h.tb,h.kept.then_ hk (fun k hk => .inl (hk ▸ h.gS)),hat.below h.below h.at_.low,fun k hk => h.far k (hk.elim (fun x => .inl (hq k x)) .inr),h.gS,h.glt,Kd.R_kept h.brow hk (fun k hk => by have:=(h.okb k hk).1; omega),fun k hk => ?_⟩
 rw [hat.size]
 exact ⟨(h.okb k hk).1,(h.okb k hk).2.1,fun hx => (h.okb k hk).2.2.1 (hq k hx),(h.okb k hk).2.2.2⟩
theorem TS.setL1 {L':Lk} (hB:B ≤ w.heap.size) (i:Nat) (u:Value) (e:(row L q o).setIfInBounds i u = row L' q o) (hq:L'.queue = L.queue) (ho:L'.out = L.out):TS w B S g pc okq oko okb L' q o hd up dn vb body (wz.setCell ⟨g,i,none⟩ u) :=
 h.setL hB (Steps.At.set (Steps.At.refl _ _) i u) (h.at_.put1 i u e hq ho) (fun _ x => x)
theorem TS.cut {A6 A7:Option Addr} {c6 qn kn:Nat} (hB:B ≤ w.heap.size) (hq:q = .slice A6 qn c6) (hk:kn ≤ L.queue.length) (hA:A7 = (if c6 = kn then A6 else A6.map (·.add (kn * bytes.sz)))) :
  TS w B S g pc okq oko okb { L with queue:=L.queue.drop kn } (.slice A7 (qn - kn) (c6 - kn)) o hd up dn vb body (wz.setCell ⟨g,6,none⟩ (.slice A7 (qn - kn) (c6 - kn))):=by
 subst hq hA
 exact h.setL hB (Steps.At.set (Steps.At.refl _ _) 6 _) (h.at_.put 6 _ rfl (Kd.Q_drop h.at_.queue hk) h.at_.out h.at_.apart h.at_.old) (fun _ x => x)
theorem TS.grow {w2:World} {v1:Value} {ys:List Int} (hB:B ≤ w.heap.size) (hb:Below wz.heap.size wz w2) (hR:(Kd.int .u8).R 5 w2 B (fun k => wz.heap.size ≤ k) v1 ys):TS w B S g pc okq oko okb L q o hd up dn vb body w2 ∧
  (Kd.int .u8).R 5 w2 B (fun k => wz.heap.size ≤ k ∧ k < w2.heap.size) v1 ys ∧ ∀ k,(wz.heap.size ≤ k ∧ k < w2.heap.size) → w.heap.size + 2 ≤ k ∧ k < w2.heap.size ∧ ¬ okq k ∧ ¬ oko k:=by
 have hs:=h.size
 refine ⟨h.sub hB hb,Kd.R_mono (Kd.R_bound hR) (fun k hk => ⟨hk.1,hk.2.2.1⟩),fun k hk => ⟨by omega,hk.2,fun hx => ?_,fun hx => ?_⟩⟩
 ·have:=(h.at_.old k (.inl hx)).1; omega
 ·have:=(h.at_.old k (.inr hx)).1; omega
theorem TS.emits {w2:World} {L':Lk} {q':Value} (hB:B ≤ w.heap.size) (he:Emits wz B okq oko g L' q' w2):∃ oko' o',TS w B S g pc okq oko' okb L' q' o' hd up dn vb body w2:=by
 obtain ⟨o',a,k1,b1⟩:=he
 have hs:=h.size
 have hs1:=k1.1
 have hg:=h.glt
 refine ⟨_,o',a,?_,?_,h.kept.then_ k1 (fun k hk => ?_),h.below.trans b1,fun k hk => ?_,h.gS,h.glt,Kd.R_kept h.brow k1 (fun k hk hx => ?_),fun k hk => ⟨(h.okb k hk).1,by have:=(h.okb k hk).2.1; omega,(h.okb k hk).2.2.1,fun hx => ?_⟩⟩
 ·exact blk_kept h.pb k1 (fun hx => (h.far1 _ (.inr hx)).2 rfl)
 ·exact blk_kept h.tb k1 (fun hx => (h.far1 _ (.inr hx)).1 rfl)
 ·rcases hk with hk | hk
  ·rcases h.far k (.inr hk) with x | x
   ·exact .inl x.1
   ·exact .inr (by omega)
  ·exact .inl (hk ▸ h.gS)
 ·rcases hk with hk | hk | hk
  ·exact h.far k (.inl hk)
  ·exact h.far k (.inr hk)
  ·exact .inr (by omega)
 ·rcases hx with hx | hx
  ·exact (h.okb k hk).2.2.2 hx
  ·have:=(h.okb k hk).1; omega
 ·rcases hx with hx | hx
  ·exact (h.okb k hk).2.2.2 hx
  ·have:=(h.okb k hk).2.1; omega
theorem TS.ends:Took w B S g L hd up dn body (.returned (.tuple #[.agg #[.bool hd,.bool up,.bool dn,vb],.int .i64 0])) wz:=by
 refine ⟨vb,okb,rfl,h.brow,fun k hk => ⟨by have:=(h.okb k hk).1; omega,(h.okb k hk).2.1⟩,⟨okq,oko,q,o,h.at_,fun k hk => ?_⟩,h.kept,h.below⟩
 rcases hk with hk | hk | hk
 ·rcases h.far k (.inl hk) with x | x
  ·exact .inl x.1
  ·exact .inr ⟨by omega,(h.at_.old k (.inl hk)).1,fun hx => (h.okb k hx).2.2.1 hk⟩
 ·rcases h.far k (.inr hk) with x | x
  ·exact .inl x.1
  ·exact .inr ⟨by omega,(h.at_.old k (.inr hk)).1,fun hx => (h.okb k hx).2.2.2 hk⟩
 ·exact .inl (hk ▸ h.gS)
end
end Go.Proofs.Ytnkkgofpifhoeaa.Lk
end
section
namespace Go.Proofs.Ytnkkgofpifhoeaa.Jmp
def Jump (P:Program) (c:Code) (Q:Exit → Act → World → Prop):Nat → Exit → Act → World → Prop
 | 0,.goto _,_,_ => False
 | n + 1,.goto l,a,w => ∃ rest,findLabel c l = some rest ∧ rest.wp P (Jump P c Q n) a w
 | _,.normal,a,w => Q .normal a w
 | _,.exit i,a,w => Q (.exit i) a w
 | _,.ret,a,w => Q .ret a w
 | _,.panic ch,a,w => Q (.panic ch) a w
 | _,.outgrown,a,w => Q .outgrown a w
section
variable {P:Program} {a:Act} {w:World} {Q:Exit → Act → World → Prop} {c:Code}
theorem Jump.ret {n:Nat} (h:Q .ret a w):Jump P c Q n .ret a w:=by cases n <;> exact h
theorem Jump.goto {n l:Nat} {C rest:Code} (hc:c = C) (hf:findLabel c l = some rest) (h:rest.wp P (Jump P C Q n) a w):Jump P C Q (n + 1) (.goto l) a w:=by
 subst hc
 exact ⟨rest,hf,h⟩
theorem wp_scope_jump (n:Nat) (h:c.wp P (Jump P c Q n) a w):(Code.scope c).wp P Q a w:=by
 intro b k cs
 have hg:∀ l rest,findLabel c l = some rest → gotoIn l (.inScope c :: k) = some (.code rest :: .inScope c :: k):=by
  intro l rest hf
  simp [gotoIn,hf]
 have key:∀ n (x:Code) a w,x.wp P (Jump P c Q n) a w → ∃ e a' w',Q e a' w' ∧ Arrives P (lone (b.at a (.code x :: .inScope c :: k)) cs w) b k cs e a' w':=by
  intro n
  induction n with
  | zero =>
   intro x a w hx
   obtain ⟨e,a₁,w₁,hq,harr⟩:=hx b (.inScope c :: k) cs
   cases e with
   | normal => exact ⟨.normal,a₁,w₁,hq,Steps.trans harr (.one step_inScope)⟩
   | exit id => exact ⟨.exit id,a₁,w₁,hq,fun k' hk => harr k' (by simp [exitTo,hk])⟩
   | goto l' => exact hq.elim
   | ret => exact ⟨_,a₁,w₁,hq,harr⟩
   | panic ch => exact ⟨_,a₁,w₁,hq,harr⟩
   | outgrown => exact ⟨_,a₁,w₁,hq,harr⟩
  | succ n ih =>
   intro x a w hx
   obtain ⟨e,a₁,w₁,hq,harr⟩:=hx b (.inScope c :: k) cs
   cases e with
   | normal => exact ⟨.normal,a₁,w₁,hq,Steps.trans harr (.one step_inScope)⟩
   | exit id => exact ⟨.exit id,a₁,w₁,hq,fun k' hk => harr k' (by simp [exitTo,hk])⟩
   | goto l' =>
    obtain ⟨rest,hf,hr⟩:=hq
    obtain ⟨e₂,a₂,w₂,hq₂,harr₂⟩:=ih rest a₁ w₁ hr
    exact ⟨e₂,a₂,w₂,hq₂,.of_steps (harr _ (hg l' rest hf)) harr₂⟩
   | ret => exact ⟨_,a₁,w₁,hq,harr⟩
   | panic ch => exact ⟨_,a₁,w₁,hq,harr⟩
   | outgrown => exact ⟨_,a₁,w₁,hq,harr⟩
 obtain ⟨e,a₁,w₁,hq,harr⟩:=key n c a w h
 cases e with
 | normal => exact ⟨.normal,a₁,w₁,hq,.head step_scope harr⟩
 | exit id => exact ⟨.exit id,a₁,w₁,hq,fun k' hk => .head step_scope (harr k' hk)⟩
 | goto l' =>
  refine ⟨.goto l',a₁,w₁,hq,fun k' hk => .head step_scope (harr k' hk)⟩
 | ret => exact ⟨_,a₁,w₁,hq,.of_steps (.one step_scope) harr⟩
 | panic ch => exact ⟨_,a₁,w₁,hq,.of_steps (.one step_scope) harr⟩
 | outgrown => exact ⟨_,a₁,w₁,hq,.of_steps (.one step_scope) harr⟩
theorem wp_scope_hid (n:Nat) (h:∀ C,RowKit.Hid (c = C) → c.wp P (Jump P C Q n) a w):(Code.scope c).wp P Q a w:=wp_scope_jump n (h c (Lib.hid rfl))
end
end Go.Proofs.Ytnkkgofpifhoeaa.Jmp
end
section
namespace Go.Proofs.YtnkkgofpifhoeaaW.PrintWords
open Go.RowKit
section
variable {P:Program} {ops:Array Oper} {rest:List Oper} {o:Oper} {a:Act} {Q:Exit → Act → World → Prop} {W:World}
theorem gate_guard (hw:Region.wanted o (yielded ops a.tmps) = true) (h:wpList P ops Q ({ o with guard:=none } :: rest) a W):wpList P ops Q (o :: rest) a W:=by
 have h1:Region.wanted { o with guard:=none } (yielded ops a.tmps) = true:=rfl
 unfold wpList at h ⊢
 rw [if_pos h1] at h
 rw [if_pos hw]
 exact h
end
end Go.Proofs.YtnkkgofpifhoeaaW.PrintWords
end
section
namespace Go.Proofs.Ytnkkgofpifhoeaa.Lk
open Go.RowKit Go.Proofs.Ytnkkgofpifhoeaa.Base Go.Proofs.Ytnkkgofpifhoeaa.Steps Go.Proofs.Ytnkkgofpifhoeaa.Pk Go.Proofs.Ytnkkgofpifhoeaa.Jmp Go.Proofs.YtnkkgofpifhoeaaW.PrintWords Go.Proofs.YtnkkgofpifhoeaaW.PrintLast
set_option maxRecDepth 100000 in
set_option maxHeartbeats 4000000 in
theorem take_shut {w:World} {B g:Nat} {okq oko S:Nat → Prop} {L:Lk} {q o:Value} (h:At w B okq oko g L q o) (hok:L.Ok) (hS:∀ k,holds okq oko g k → S k) (hB:B ≤ w.heap.size) (boot:Int) (p:Pkt) (Ab:Option Addr) (cb:Nat)
  (hb0:boot ≠ 0) (hbr:0 ≤ boot ∧ boot < 4294967296) (hpr:p.Rng) (hck:checkP p.kind p.mine p.boot p.yours p.seq p.ack p.stamp p.echo p.zr p.zi p.body.length = 0)  (hph:L.phase = 0) :
  Calls Try.prog 34 #[.pointer (some ⟨g,0,none⟩),.int .u32 boot,.agg #[.int .i64 p.kind,.int .u32 p.mine,.int .u32 p.boot,.int .u32 p.yours,.int .u32 p.seq,.int .u32 p.ack,.int .u32 p.stamp,.int .u32 p.echo,.complex .f64 p.zr p.zi,.slice Ab p.body.length cb]] w fun e w' => Took w B S g (L) false false false [] e w':=by
 have HG0:=Lib.hid (show (((w.alloc (.cells #[.int .i64 p.kind,.int .u32 p.mine,.int .u32 p.boot,.int .u32 p.yours,.int .u32 p.seq,.int .u32 p.ack,.int .u32 p.stamp,.int .u32 p.echo,.complex .f64 p.zr p.zi,.slice Ab p.body.length cb] 27)).alloc (.cells #[.bool false,.bool false,.bool false,.slice none 0 0] 56))).heap[w.heap.size]? = some (.cells #[.int .i64 p.kind,.int .u32 p.mine,.int .u32 p.boot,.int .u32 p.yours,.int .u32 p.seq,.int .u32 p.ack,.int .u32 p.stamp,.int .u32 p.echo,.complex .f64 p.zr p.zi,.slice Ab p.body.length cb] 27 (0,0)) from (Below.heap_alloc _ _ _ (by simp)).trans (heap_alloc_new w _))
 have H:=Lib.hid h
 have OK:=Lib.hid hok
 have HS:=Lib.hid hS
 have HPR:=Lib.hid hpr
 have HCK:=Lib.hid hck
 have hbz:(boot == 0) = false:=by simp [hb0]
 have HPH:=Lib.hid hph
 clear hph
 clear h hok hS hpr hck hb0
 go_enter Try.func34,Try.ntmps34
 go_wp2_with fail
 refine wp_scope_hid 3 (fun C HC => ?_)
 go_wp2_with (first | ((with_reducible refine gate_dst (N:=17) rfl ?_); (refine wpList_load_row rfl 27 (.tmp 5) rfl w.heap.size (by rfl) 27 #[.int .i64 p.kind,.int .u32 p.mine,.int .u32 p.boot,.int .u32 p.yours,.int .u32 p.seq,.int .u32 p.ack,.int .u32 p.stamp,.int .u32 p.echo,.complex .f64 p.zr p.zi,.slice Ab p.body.length cb] (0,0) _ HG0.out Try.underlying27 rfl (by kernel_rfl) ?_)) | (go_at_call 20; (refine (check_any _ _ _ _ _ _ _ _ _ _ _ _ _ _ HPR.out.zr HPR.out.zi).mono ?_); (rintro e w_K0 ⟨rfl,hb⟩); (rw [HCK.out]); (have K0:=Lib.hid (TS.start (pc:=#[.int .i64 p.kind,.int .u32 p.mine,.int .u32 p.boot,.int .u32 p.yours,.int .u32 p.seq,.int .u32 p.ack,.int .u32 p.stamp,.int .u32 p.echo,.complex .f64 p.zr p.zi,.slice Ab p.body.length cb]) H.out HS.out hB (hb.mono (by simp)))); (clear hb); (have hl1:w_K0.cell? ⟨g,1,none⟩ = some (.int .i64 0):=(blk_cell K0.out.at_.blk 1).trans (congrArg (fun x => some (Value.int .i64 x)) HPH.out)); (have hp0:w_K0.cell? ⟨w.heap.size,0,none⟩ = some (.int .i64 p.kind):=(blk_cell K0.out.pb 0).trans rfl); (have hp1:w_K0.cell? ⟨w.heap.size,1,none⟩ = some (.int .u32 p.mine):=(blk_cell K0.out.pb 1).trans rfl)) | (go_at_call 76; (refine (age_of K0.out.at_ boot p.mine).mono ?_); (rintro e w1 ⟨rfl,rfl⟩); (skip)))
 refine wp_goto ?_
 refine Jump.goto HC.out rfl ?_
 go_wp2_with (first | ((with_reducible refine gate_dst (N:=207) rfl ?_); (refine wpList_load_row rfl 56 (.tmp 6) rfl (w.heap.size + 1) (by rfl) 56 _ (0,0) _ (by first | exact K0.out.tb | exact (K0.out.drewN hB _).tb) Try.underlying56 rfl (by kernel_rfl) ?_)) | ((with_reducible refine gate_ (.store 56 (.tmp 6) (.tmp 207)) rfl ?_); (refine store_row_F rfl rfl 56 (.tmp 6) (.tmp 207) rfl (w.heap.size + 1) _ rfl rfl 56 _ (by first | exact K0.out.tb | exact (K0.out.drewN hB _).tb) (by kernel_rfl) rfl (by kernel_rfl) ?_); (intro w_K1 hb9 hat9); (have hF:=TS.setT (by first | exact K0.out | exact K0.out.drewN hB _ | exact K0.out.drew hB) hB hat9 hb9 (by first | exact K0.out.brow | exact (K0.out.drewN hB _).brow) (by first | exact K0.out.okb | exact (K0.out.drewN hB _).okb)); (have K1:=Lib.hid hF); (clear hF hb9 hat9)))
 refine Jump.ret ?_
 refine bodyPost_ret ?_ rfl (K1.out.ends)
 exact results_cell2 Try.results34 _ _ rfl rfl (run_loadVar_row (P:=Try.prog) _ (w.heap.size + 1) 56 56 _ (0,0) _ K1.out.tb Try.underlying56 rfl (by kernel_rfl))
set_option maxRecDepth 100000 in
set_option maxHeartbeats 4000000 in
theorem take_old {w:World} {B g:Nat} {okq oko S:Nat → Prop} {L:Lk} {q o:Value} (h:At w B okq oko g L q o) (hok:L.Ok) (hS:∀ k,holds okq oko g k → S k) (hB:B ≤ w.heap.size) (boot:Int) (p:Pkt) (Ab:Option Addr) (cb:Nat)
  (hb0:boot ≠ 0) (hbr:0 ≤ boot ∧ boot < 4294967296) (hpr:p.Rng) (hck:checkP p.kind p.mine p.boot p.yours p.seq p.ack p.stamp p.echo p.zr p.zi p.body.length = 0)  (hph:L.phase ≠ 0) (hag:ageF L boot p.mine = -1) :
  Calls Try.prog 34 #[.pointer (some ⟨g,0,none⟩),.int .u32 boot,.agg #[.int .i64 p.kind,.int .u32 p.mine,.int .u32 p.boot,.int .u32 p.yours,.int .u32 p.seq,.int .u32 p.ack,.int .u32 p.stamp,.int .u32 p.echo,.complex .f64 p.zr p.zi,.slice Ab p.body.length cb]] w fun e w' => Took w B S g (L) false false false [] e w':=by
 have HG0:=Lib.hid (show (((w.alloc (.cells #[.int .i64 p.kind,.int .u32 p.mine,.int .u32 p.boot,.int .u32 p.yours,.int .u32 p.seq,.int .u32 p.ack,.int .u32 p.stamp,.int .u32 p.echo,.complex .f64 p.zr p.zi,.slice Ab p.body.length cb] 27)).alloc (.cells #[.bool false,.bool false,.bool false,.slice none 0 0] 56))).heap[w.heap.size]? = some (.cells #[.int .i64 p.kind,.int .u32 p.mine,.int .u32 p.boot,.int .u32 p.yours,.int .u32 p.seq,.int .u32 p.ack,.int .u32 p.stamp,.int .u32 p.echo,.complex .f64 p.zr p.zi,.slice Ab p.body.length cb] 27 (0,0)) from (Below.heap_alloc _ _ _ (by simp)).trans (heap_alloc_new w _))
 have H:=Lib.hid h
 have OK:=Lib.hid hok
 have HS:=Lib.hid hS
 have HPR:=Lib.hid hpr
 have HCK:=Lib.hid hck
 have hbz:(boot == 0) = false:=by simp [hb0]
 have HAG:=Lib.hid hag
 clear hag
 have hd1:(L.phase == 0) = false:=by simp [hph]
 clear hph
 clear h hok hS hpr hck hb0
 go_enter Try.func34,Try.ntmps34
 go_wp2_with fail
 refine wp_scope_hid 3 (fun C HC => ?_)
 go_wp2_with (first | ((with_reducible refine gate_dst (N:=17) rfl ?_); (refine wpList_load_row rfl 27 (.tmp 5) rfl w.heap.size (by rfl) 27 #[.int .i64 p.kind,.int .u32 p.mine,.int .u32 p.boot,.int .u32 p.yours,.int .u32 p.seq,.int .u32 p.ack,.int .u32 p.stamp,.int .u32 p.echo,.complex .f64 p.zr p.zi,.slice Ab p.body.length cb] (0,0) _ HG0.out Try.underlying27 rfl (by kernel_rfl) ?_)) | (go_at_call 20; (refine (check_any _ _ _ _ _ _ _ _ _ _ _ _ _ _ HPR.out.zr HPR.out.zi).mono ?_); (rintro e w_K0 ⟨rfl,hb⟩); (rw [HCK.out]); (have K0:=Lib.hid (TS.start (pc:=#[.int .i64 p.kind,.int .u32 p.mine,.int .u32 p.boot,.int .u32 p.yours,.int .u32 p.seq,.int .u32 p.ack,.int .u32 p.stamp,.int .u32 p.echo,.complex .f64 p.zr p.zi,.slice Ab p.body.length cb]) H.out HS.out hB (hb.mono (by simp)))); (clear hb); (have hl1:w_K0.cell? ⟨g,1,none⟩ = some (.int .i64 L.phase):=(blk_cell K0.out.at_.blk 1).trans rfl); (have hp0:w_K0.cell? ⟨w.heap.size,0,none⟩ = some (.int .i64 p.kind):=(blk_cell K0.out.pb 0).trans rfl); (have hp1:w_K0.cell? ⟨w.heap.size,1,none⟩ = some (.int .u32 p.mine):=(blk_cell K0.out.pb 1).trans rfl)) | (go_at_call 76; (refine (age_of K0.out.at_ boot p.mine).mono ?_); (rintro e w1 ⟨rfl,rfl⟩); (rw [HAG.out])))
 refine wp_goto ?_
 refine Jump.goto HC.out rfl ?_
 go_wp2_with (first | ((with_reducible refine gate_dst (N:=207) rfl ?_); (refine wpList_load_row rfl 56 (.tmp 6) rfl (w.heap.size + 1) (by rfl) 56 _ (0,0) _ (by first | exact K0.out.tb | exact (K0.out.drewN hB _).tb) Try.underlying56 rfl (by kernel_rfl) ?_)) | ((with_reducible refine gate_ (.store 56 (.tmp 6) (.tmp 207)) rfl ?_); (refine store_row_F rfl rfl 56 (.tmp 6) (.tmp 207) rfl (w.heap.size + 1) _ rfl rfl 56 _ (by first | exact K0.out.tb | exact (K0.out.drewN hB _).tb) (by kernel_rfl) rfl (by kernel_rfl) ?_); (intro w_K1 hb9 hat9); (have hF:=TS.setT (by first | exact K0.out | exact K0.out.drewN hB _ | exact K0.out.drew hB) hB hat9 hb9 (by first | exact K0.out.brow | exact (K0.out.drewN hB _).brow) (by first | exact K0.out.okb | exact (K0.out.drewN hB _).okb)); (have K1:=Lib.hid hF); (clear hF hb9 hat9)))
 refine Jump.ret ?_
 refine bodyPost_ret ?_ rfl (K1.out.ends)
 exact results_cell2 Try.results34 _ _ rfl rfl (run_loadVar_row (P:=Try.prog) _ (w.heap.size + 1) 56 56 _ (0,0) _ K1.out.tb Try.underlying56 rfl (by kernel_rfl))
set_option maxRecDepth 100000 in
set_option maxHeartbeats 4000000 in
theorem take_open1 {w:World} {B g:Nat} {okq oko S:Nat → Prop} {L:Lk} {q o:Value} (h:At w B okq oko g L q o) (hok:L.Ok) (hS:∀ k,holds okq oko g k → S k) (hB:B ≤ w.heap.size) (boot:Int) (p:Pkt) (Ab:Option Addr) (cb:Nat)
  (hb0:boot ≠ 0) (hbr:0 ≤ boot ∧ boot < 4294967296) (hpr:p.Rng) (hck:checkP p.kind p.mine p.boot p.yours p.seq p.ack p.stamp p.echo p.zr p.zi p.body.length = 0)  (hph:L.phase = 1) (hag:0 ≤ ageF L boot p.mine) (hkd:p.kind = 1) (hmn:meantF L p = true) :
  Calls Try.prog 34 #[.pointer (some ⟨g,0,none⟩),.int .u32 boot,.agg #[.int .i64 p.kind,.int .u32 p.mine,.int .u32 p.boot,.int .u32 p.yours,.int .u32 p.seq,.int .u32 p.ack,.int .u32 p.stamp,.int .u32 p.echo,.complex .f64 p.zr p.zi,.slice Ab p.body.length cb]] w fun e w' => Took w B S g (emit_ ({ L with phase:=2,boot:=boot,yours:=p.mine,known:=true }) (helloP ({ L with phase:=2,boot:=boot,yours:=p.mine,known:=true }))) true true false [] e w':=by
 have HG0:=Lib.hid (show (((w.alloc (.cells #[.int .i64 p.kind,.int .u32 p.mine,.int .u32 p.boot,.int .u32 p.yours,.int .u32 p.seq,.int .u32 p.ack,.int .u32 p.stamp,.int .u32 p.echo,.complex .f64 p.zr p.zi,.slice Ab p.body.length cb] 27)).alloc (.cells #[.bool false,.bool false,.bool false,.slice none 0 0] 56))).heap[w.heap.size]? = some (.cells #[.int .i64 p.kind,.int .u32 p.mine,.int .u32 p.boot,.int .u32 p.yours,.int .u32 p.seq,.int .u32 p.ack,.int .u32 p.stamp,.int .u32 p.echo,.complex .f64 p.zr p.zi,.slice Ab p.body.length cb] 27 (0,0)) from (Below.heap_alloc _ _ _ (by simp)).trans (heap_alloc_new w _))
 have H:=Lib.hid h
 have OK:=Lib.hid hok
 have HS:=Lib.hid hS
 have HPR:=Lib.hid hpr
 have HCK:=Lib.hid hck
 have hbz:(boot == 0) = false:=by simp [hb0]
 have HPH:=Lib.hid hph
 clear hph
 have HKD:=Lib.hid hkd
 clear hkd
 have hd2:decide (ageF L boot p.mine < 0) = false:=by simp; omega
 clear hag
 have HMN:=Lib.hid hmn
 clear hmn
 have OKP:=Lib.hid (peer_ok OK.out hbr HPR.out.mine true)
 have HBR:=Lib.hid hbr
 clear hbr
 clear h hok hS hpr hck hb0
 go_enter Try.func34,Try.ntmps34
 go_wp2_with fail
 refine wp_scope_hid 3 (fun C HC => ?_)
 go_wp2_with (first | ((with_reducible refine gate_dst (N:=17) rfl ?_); (refine wpList_load_row rfl 27 (.tmp 5) rfl w.heap.size (by rfl) 27 #[.int .i64 p.kind,.int .u32 p.mine,.int .u32 p.boot,.int .u32 p.yours,.int .u32 p.seq,.int .u32 p.ack,.int .u32 p.stamp,.int .u32 p.echo,.complex .f64 p.zr p.zi,.slice Ab p.body.length cb] (0,0) _ HG0.out Try.underlying27 rfl (by kernel_rfl) ?_)) | (go_at_call 20; (refine (check_any _ _ _ _ _ _ _ _ _ _ _ _ _ _ HPR.out.zr HPR.out.zi).mono ?_); (rintro e w_K0 ⟨rfl,hb⟩); (rw [HCK.out]); (have K0:=Lib.hid (TS.start (pc:=#[.int .i64 p.kind,.int .u32 p.mine,.int .u32 p.boot,.int .u32 p.yours,.int .u32 p.seq,.int .u32 p.ack,.int .u32 p.stamp,.int .u32 p.echo,.complex .f64 p.zr p.zi,.slice Ab p.body.length cb]) H.out HS.out hB (hb.mono (by simp)))); (clear hb); (have hl1:w_K0.cell? ⟨g,1,none⟩ = some (.int .i64 1):=(blk_cell K0.out.at_.blk 1).trans (congrArg (fun x => some (Value.int .i64 x)) HPH.out)); (have hp0:w_K0.cell? ⟨w.heap.size,0,none⟩ = some (.int .i64 1):=(blk_cell K0.out.pb 0).trans (congrArg (fun x => some (Value.int .i64 x)) HKD.out)); (have hp1:w_K0.cell? ⟨w.heap.size,1,none⟩ = some (.int .u32 p.mine):=(blk_cell K0.out.pb 1).trans rfl)) | (go_at_call 76; (refine (age_of K0.out.at_ boot p.mine).mono ?_); (rintro e w1 ⟨rfl,rfl⟩); (skip)) | ((with_reducible refine gate_ (.store 4 (.tmp 40) (.const (.bool true))) rfl ?_); (refine store_F (fun wz => TS w B S g #[.int .i64 p.kind,.int .u32 p.mine,.int .u32 p.boot,.int .u32 p.yours,.int .u32 p.seq,.int .u32 p.ack,.int .u32 p.stamp,.int .u32 p.echo,.complex .f64 p.zr p.zi,.slice Ab p.body.length cb] okq oko (fun _ => False) (L) q o true false false (.slice none 0 0) [] wz) rfl rfl ⟨_,(by have hz1:World.cell? w_K0 ⟨w.heap.size + 1,0,none⟩ = some _:=(blk_cell K0.out.tb 0).trans rfl; have hz2:=blk_frozen K0.out.tb 0; first | (go_simp; done) | (go_simp; rfl)),TS.setT1 K0.out hB 0 _ rfl⟩ (fun w_K1 hF => ?_)); (have K1:=Lib.hid hF); (clear hF); (clear hl1 hp0 hp1); (have hl1:w_K1.cell? ⟨g,1,none⟩ = some (.int .i64 1):=(blk_cell K1.out.at_.blk 1).trans (congrArg (fun x => some (Value.int .i64 x)) HPH.out)); (have hp0:w_K1.cell? ⟨w.heap.size,0,none⟩ = some (.int .i64 1):=(blk_cell K1.out.pb 0).trans (congrArg (fun x => some (Value.int .i64 x)) HKD.out))))
 refine wp_goto ?_
 refine Jump.goto HC.out rfl ?_
 go_wp2_with fail
 have hSS:w_K1.drew.heap[w.heap.size]? = some (.cells #[.int .i64 p.kind,.int .u32 p.mine,.int .u32 p.boot,.int .u32 p.yours,.int .u32 p.seq,.int .u32 p.ack,.int .u32 p.stamp,.int .u32 p.echo,.complex .f64 p.zr p.zi,.slice Ab p.body.length cb] 27 (0,0)):=K1.out.pb
 have hts:=K1.out.drew hB
 clear hl1 hp0
 refine start_ (n:=15) (S:=fun w' => w'.heap[w.heap.size]? = some (.cells #[.int .i64 p.kind,.int .u32 p.mine,.int .u32 p.boot,.int .u32 p.yours,.int .u32 p.seq,.int .u32 p.ack,.int .u32 p.stamp,.int .u32 p.echo,.complex .f64 p.zr p.zi,.slice Ab p.body.length cb] 27 (0,0))) (ds:=[]) M01 (by kernel_rfl) rfl rfl (hSS) (fun hHeld => ?_)
 generalize w_K1.drew = w_Y2 at hts hHeld ⊢
 have KY2:=Lib.hid hts
 clear hts hSS
 refine pure_ (i:=0) (N:=some 63) (v:=?_) (a':=?_) M02 rfl rfl (by kernel_rfl) (fun _ _ _ h => h) (Or.inl ⟨by rfl,?_⟩) ?_ ?_
 rotate_left
 ·intro w'
  go_simp
  with_reducible rfl
 rotate_left
 ·simp only [Act.put,sA,sZ,sS]
  rfl
 refine pure_ (i:=1) (N:=some 64) (v:=?_) (a':=?_) M03 rfl rfl (by kernel_rfl) (fun _ _ _ h => h) (Or.inl ⟨by rfl,?_⟩) ?_ ?_
 rotate_left
 ·intro w'
  go_simp
  with_reducible rfl
 rotate_left
 ·simp only [Act.put,sA,sZ,sS]
  rfl
 refine pure_ (i:=2) (N:=some 65) (v:=?_) (a':=?_) M04 rfl rfl (by kernel_rfl) (fun _ _ _ h => h) (Or.inl ⟨by rfl,?_⟩) ?_ ?_
 rotate_left
 ·intro w'
  go_simp
  with_reducible rfl
 rotate_left
 ·simp only [Act.put,sA,sZ,sS]
  rfl
 refine pure_ (i:=3) (N:=some 66) (v:=?_) (a':=?_) M05 rfl rfl (by kernel_rfl) (fun _ _ _ h => h) (Or.inl ⟨by rfl,?_⟩) ?_ ?_
 rotate_left
 ·intro w'
  go_simp
  with_reducible rfl
 rotate_left
 ·simp only [Act.put,sA,sZ,sS]
  rfl
 refine pure_ (i:=4) (N:=some 67) (v:=?_) (a':=?_) M06 rfl rfl (by kernel_rfl) (fun _ _ _ h => h) (Or.inl ⟨by rfl,?_⟩) ?_ ?_
 rotate_left
 ·intro w'
  go_simp
  with_reducible rfl
 rotate_left
 ·simp only [Act.put,sA,sZ,sS]
  rfl
 refine take_ (i:=5) (N:=some 68) (v:=?_) (a':=?_) M07 rfl rfl (by kernel_rfl) (fun _ _ _ h => h) (Or.inl ⟨by rfl,?_⟩) hHeld ?_ ?_
 rotate_left
 ·intro w' s0
  have hp1:w'.cell? ⟨w.heap.size,1,none⟩ = some (.int .u32 p.mine):=(blk_cell s0 1).trans rfl
  clear s0
  go_simp
  with_reducible rfl
 rotate_left
 ·simp only [Act.put,sA,sZ,sS]
  rfl
 refine pure_ (i:=6) (N:=some 69) (v:=?_) (a':=?_) M08 rfl rfl (by kernel_rfl) (fun _ _ _ h => h) (Or.inl ⟨by rfl,?_⟩) ?_ ?_
 rotate_left
 ·intro w'
  go_simp
  with_reducible rfl
 rotate_left
 ·simp only [Act.put,sA,sZ,sS]
  rfl
 refine pure_ (i:=7) (N:=some 70) (v:=?_) (a':=?_) M09 rfl rfl (by kernel_rfl) (fun _ _ _ h => h) (Or.inl ⟨by rfl,?_⟩) ?_ ?_
 rotate_left
 ·intro w'
  go_simp
  with_reducible rfl
 rotate_left
 ·simp only [Act.put,sA,sZ,sS]
  rfl
 refine one_ (i:=8) (N:=none) M0a rfl rfl (by kernel_rfl) (by decide) (fun K hK => ?_)
 have hz1:w_Y2.cell? ⟨g,3,none⟩ = some _:=(blk_cell KY2.out.at_.blk 3).trans rfl
 have hz2:=blk_frozen KY2.out.at_.blk 3
 refine skip_F (fun wz => TS w B S g #[.int .i64 p.kind,.int .u32 p.mine,.int .u32 p.boot,.int .u32 p.yours,.int .u32 p.seq,.int .u32 p.ack,.int .u32 p.stamp,.int .u32 p.echo,.complex .f64 p.zr p.zi,.slice Ab p.body.length cb] okq oko (fun _ => False) ({ L with boot:=boot }) q o true false false (.slice none 0 0) [] wz) (by rfl) rfl ⟨_,by first | (go_simp; done) | (go_simp; rfl),TS.setL1 KY2.out hB 3 _ rfl rfl rfl⟩ (fun w_K3 hF => ?_)
 have K3:=Lib.hid hF
 clear hF hz1 hz2 hHeld
 refine hK.out _ _ K3.out.pb (fun hHeld => ?_)
 clear hK K
 refine pure_ (i:=9) (N:=some 71) (v:=?_) (a':=?_) M0b rfl rfl (by kernel_rfl) (fun _ _ _ h => h) (Or.inl ⟨by rfl,?_⟩) ?_ ?_
 rotate_left
 ·intro w'
  go_simp
  with_reducible rfl
 rotate_left
 ·simp only [Act.put,sA,sZ,sS]
  rfl
 refine pure_ (i:=10) (N:=some 72) (v:=?_) (a':=?_) M0c rfl rfl (by kernel_rfl) (fun _ _ _ h => h) (Or.inl ⟨by rfl,?_⟩) ?_ ?_
 rotate_left
 ·intro w'
  go_simp
  with_reducible rfl
 rotate_left
 ·simp only [Act.put,sA,sZ,sS]
  rfl
 refine one_ (i:=11) (N:=none) M0d rfl rfl (by kernel_rfl) (by decide) (fun K hK => ?_)
 have hz1:w_K3.cell? ⟨g,4,none⟩ = some _:=(blk_cell K3.out.at_.blk 4).trans rfl
 have hz2:=blk_frozen K3.out.at_.blk 4
 refine skip_F (fun wz => TS w B S g #[.int .i64 p.kind,.int .u32 p.mine,.int .u32 p.boot,.int .u32 p.yours,.int .u32 p.seq,.int .u32 p.ack,.int .u32 p.stamp,.int .u32 p.echo,.complex .f64 p.zr p.zi,.slice Ab p.body.length cb] okq oko (fun _ => False) ({ L with boot:=boot,yours:=p.mine }) q o true false false (.slice none 0 0) [] wz) (by rfl) rfl ⟨_,by first | (go_simp; done) | (go_simp; rfl),TS.setL1 K3.out hB 4 _ rfl rfl rfl⟩ (fun w_K4 hF => ?_)
 have K4:=Lib.hid hF
 clear hF hz1 hz2 hHeld
 refine hK.out _ _ K4.out.pb (fun hHeld => ?_)
 clear hK K
 refine pure_ (i:=12) (N:=some 73) (v:=?_) (a':=?_) M00 rfl rfl (by kernel_rfl) (fun _ _ _ h => h) (Or.inl ⟨by rfl,?_⟩) ?_ ?_
 rotate_left
 ·intro w'
  go_simp
  with_reducible rfl
 rotate_left
 ·simp only [Act.put,sA,sZ,sS]
  rfl
 refine pure_ (i:=13) (N:=some 74) (v:=?_) (a':=?_) M0e rfl rfl (by kernel_rfl) (fun _ _ _ h => h) (Or.inl ⟨by rfl,?_⟩) ?_ ?_
 rotate_left
 ·intro w'
  go_simp
  with_reducible rfl
 rotate_left
 ·simp only [Act.put,sA,sZ,sS]
  rfl
 refine one_ (i:=14) (N:=none) M0f rfl rfl (by kernel_rfl) (by decide) (fun K hK => ?_)
 have hz1:w_K4.cell? ⟨g,5,none⟩ = some _:=(blk_cell K4.out.at_.blk 5).trans rfl
 have hz2:=blk_frozen K4.out.at_.blk 5
 refine skip_F (fun wz => TS w B S g #[.int .i64 p.kind,.int .u32 p.mine,.int .u32 p.boot,.int .u32 p.yours,.int .u32 p.seq,.int .u32 p.ack,.int .u32 p.stamp,.int .u32 p.echo,.complex .f64 p.zr p.zi,.slice Ab p.body.length cb] okq oko (fun _ => False) ({ L with boot:=boot,yours:=p.mine,known:=true }) q o true false false (.slice none 0 0) [] wz) (by rfl) rfl ⟨_,by first | (go_simp; done) | (go_simp; rfl),TS.setL1 K4.out hB 5 _ rfl rfl rfl⟩ (fun w_K5 hF => ?_)
 have K5:=Lib.hid hF
 clear hF hz1 hz2 hHeld
 refine hK.out _ _ K5.out.pb (fun hHeld => ?_)
 clear hK K
 refine done_ (by kernel_rfl) ?_
 clear hHeld
 go_wp2_with (first | ((with_reducible refine gate_dst (N:=76) rfl ?_); (refine wpList_load_row rfl 27 (.tmp 5) rfl w.heap.size (by rfl) 27 _ (0,0) _ (by first | exact K5.out.pb | exact (K5.out.drewN hB _).pb) Try.underlying27 rfl (by kernel_rfl) ?_)) | (go_at_call 77; (refine (meant_of K5.out.at_ p (.slice Ab p.body.length cb)).mono ?_); (rintro e w_K6 ⟨rfl,hb⟩); (have hme:meantF ({ L with boot:=boot,yours:=p.mine,known:=true }) p = true:=HMN.out); (rw [hme]); (clear hme); (have K6:=Lib.hid (K5.out.sub hB hb)); (clear hb)) | ((with_reducible refine gate_ (.store 3 (.tmp 80) (.const (.int .i64 2))) rfl ?_); (refine store_F (fun wz => TS w B S g #[.int .i64 p.kind,.int .u32 p.mine,.int .u32 p.boot,.int .u32 p.yours,.int .u32 p.seq,.int .u32 p.ack,.int .u32 p.stamp,.int .u32 p.echo,.complex .f64 p.zr p.zi,.slice Ab p.body.length cb] okq oko (fun _ => False) ({ L with phase:=2,boot:=boot,yours:=p.mine,known:=true }) q o true false false (.slice none 0 0) [] wz) rfl rfl ⟨_,(by have hz1:World.cell? w_K6 ⟨g,1,none⟩ = some _:=(blk_cell K6.out.at_.blk 1).trans rfl; have hz2:=blk_frozen K6.out.at_.blk 1; first | (go_simp; done) | (go_simp; rfl)),TS.setL1 K6.out hB 1 _ rfl rfl rfl⟩ (fun w_K7 hF => ?_)); (have K7:=Lib.hid hF); (clear hF)) | ((with_reducible refine gate_ (.store 4 (.tmp 81) (.const (.bool true))) rfl ?_); (refine store_F (fun wz => TS w B S g #[.int .i64 p.kind,.int .u32 p.mine,.int .u32 p.boot,.int .u32 p.yours,.int .u32 p.seq,.int .u32 p.ack,.int .u32 p.stamp,.int .u32 p.echo,.complex .f64 p.zr p.zi,.slice Ab p.body.length cb] okq oko (fun _ => False) ({ L with phase:=2,boot:=boot,yours:=p.mine,known:=true }) q o true true false (.slice none 0 0) [] wz) rfl rfl ⟨_,(by have hz1:World.cell? w_K7 ⟨w.heap.size + 1,1,none⟩ = some _:=(blk_cell K7.out.tb 1).trans rfl; have hz2:=blk_frozen K7.out.tb 1; first | (go_simp; done) | (go_simp; rfl)),TS.setT1 K7.out hB 1 _ rfl⟩ (fun w_K8 hF => ?_)); (have K8:=Lib.hid hF); (clear hF)) | (go_at_call 73; (refine (hello_of K8.out.at_ (phase_ok OKP.out (by decide)) (Nat.le_trans hB K8.out.kept.1)).mono ?_); (rintro e w_K9 ⟨rfl,hE⟩); (obtain ⟨oko_K9,o_K9,hF⟩:=TS.emits K8.out hB hE); (clear hE); (have K9:=Lib.hid hF); (clear hF)))
 refine wp_goto ?_
 refine Jump.goto HC.out rfl ?_
 go_wp2_with (first | ((with_reducible refine gate_dst (N:=207) rfl ?_); (refine wpList_load_row rfl 56 (.tmp 6) rfl (w.heap.size + 1) (by rfl) 56 _ (0,0) _ (by first | exact K9.out.tb | exact (K9.out.drewN hB _).tb) Try.underlying56 rfl (by kernel_rfl) ?_)) | ((with_reducible refine gate_ (.store 56 (.tmp 6) (.tmp 207)) rfl ?_); (refine store_row_F rfl rfl 56 (.tmp 6) (.tmp 207) rfl (w.heap.size + 1) _ rfl rfl 56 _ (by first | exact K9.out.tb | exact (K9.out.drewN hB _).tb) (by kernel_rfl) rfl (by kernel_rfl) ?_); (intro w_K10 hb9 hat9); (have hF:=TS.setT (by first | exact K9.out | exact K9.out.drewN hB _ | exact K9.out.drew hB) hB hat9 hb9 (by first | exact K9.out.brow | exact (K9.out.drewN hB _).brow) (by first | exact K9.out.okb | exact (K9.out.drewN hB _).okb)); (have K10:=Lib.hid hF); (clear hF hb9 hat9)))
 refine Jump.ret ?_
 refine bodyPost_ret ?_ rfl (K10.out.ends)
 exact results_cell2 Try.results34 _ _ rfl rfl (run_loadVar_row (P:=Try.prog) _ (w.heap.size + 1) 56 56 _ (0,0) _ K10.out.tb Try.underlying56 rfl (by kernel_rfl))
set_option maxRecDepth 100000 in
set_option maxHeartbeats 4000000 in
theorem take_open0 {w:World} {B g:Nat} {okq oko S:Nat → Prop} {L:Lk} {q o:Value} (h:At w B okq oko g L q o) (hok:L.Ok) (hS:∀ k,holds okq oko g k → S k) (hB:B ≤ w.heap.size) (boot:Int) (p:Pkt) (Ab:Option Addr) (cb:Nat)
  (hb0:boot ≠ 0) (hbr:0 ≤ boot ∧ boot < 4294967296) (hpr:p.Rng) (hck:checkP p.kind p.mine p.boot p.yours p.seq p.ack p.stamp p.echo p.zr p.zi p.body.length = 0)  (hph:L.phase = 1) (hag:0 ≤ ageF L boot p.mine) (hkd:p.kind = 1) (hmn:meantF L p = false) :
  Calls Try.prog 34 #[.pointer (some ⟨g,0,none⟩),.int .u32 boot,.agg #[.int .i64 p.kind,.int .u32 p.mine,.int .u32 p.boot,.int .u32 p.yours,.int .u32 p.seq,.int .u32 p.ack,.int .u32 p.stamp,.int .u32 p.echo,.complex .f64 p.zr p.zi,.slice Ab p.body.length cb]] w fun e w' => Took w B S g (emit_ ({ L with boot:=boot,yours:=p.mine,known:=true }) (helloP ({ L with boot:=boot,yours:=p.mine,known:=true }))) true false false [] e w':=by
 have HG0:=Lib.hid (show (((w.alloc (.cells #[.int .i64 p.kind,.int .u32 p.mine,.int .u32 p.boot,.int .u32 p.yours,.int .u32 p.seq,.int .u32 p.ack,.int .u32 p.stamp,.int .u32 p.echo,.complex .f64 p.zr p.zi,.slice Ab p.body.length cb] 27)).alloc (.cells #[.bool false,.bool false,.bool false,.slice none 0 0] 56))).heap[w.heap.size]? = some (.cells #[.int .i64 p.kind,.int .u32 p.mine,.int .u32 p.boot,.int .u32 p.yours,.int .u32 p.seq,.int .u32 p.ack,.int .u32 p.stamp,.int .u32 p.echo,.complex .f64 p.zr p.zi,.slice Ab p.body.length cb] 27 (0,0)) from (Below.heap_alloc _ _ _ (by simp)).trans (heap_alloc_new w _))
 have H:=Lib.hid h
 have OK:=Lib.hid hok
 have HS:=Lib.hid hS
 have HPR:=Lib.hid hpr
 have HCK:=Lib.hid hck
 have hbz:(boot == 0) = false:=by simp [hb0]
 have HPH:=Lib.hid hph
 clear hph
 have HKD:=Lib.hid hkd
 clear hkd
 have hd2:decide (ageF L boot p.mine < 0) = false:=by simp; omega
 clear hag
 have HMN:=Lib.hid hmn
 clear hmn
 have OKP:=Lib.hid (peer_ok OK.out hbr HPR.out.mine true)
 have HBR:=Lib.hid hbr
 clear hbr
 clear h hok hS hpr hck hb0
 go_enter Try.func34,Try.ntmps34
 go_wp2_with fail
 refine wp_scope_hid 3 (fun C HC => ?_)
 go_wp2_with (first | ((with_reducible refine gate_dst (N:=17) rfl ?_); (refine wpList_load_row rfl 27 (.tmp 5) rfl w.heap.size (by rfl) 27 #[.int .i64 p.kind,.int .u32 p.mine,.int .u32 p.boot,.int .u32 p.yours,.int .u32 p.seq,.int .u32 p.ack,.int .u32 p.stamp,.int .u32 p.echo,.complex .f64 p.zr p.zi,.slice Ab p.body.length cb] (0,0) _ HG0.out Try.underlying27 rfl (by kernel_rfl) ?_)) | (go_at_call 20; (refine (check_any _ _ _ _ _ _ _ _ _ _ _ _ _ _ HPR.out.zr HPR.out.zi).mono ?_); (rintro e w_K0 ⟨rfl,hb⟩); (rw [HCK.out]); (have K0:=Lib.hid (TS.start (pc:=#[.int .i64 p.kind,.int .u32 p.mine,.int .u32 p.boot,.int .u32 p.yours,.int .u32 p.seq,.int .u32 p.ack,.int .u32 p.stamp,.int .u32 p.echo,.complex .f64 p.zr p.zi,.slice Ab p.body.length cb]) H.out HS.out hB (hb.mono (by simp)))); (clear hb); (have hl1:w_K0.cell? ⟨g,1,none⟩ = some (.int .i64 1):=(blk_cell K0.out.at_.blk 1).trans (congrArg (fun x => some (Value.int .i64 x)) HPH.out)); (have hp0:w_K0.cell? ⟨w.heap.size,0,none⟩ = some (.int .i64 1):=(blk_cell K0.out.pb 0).trans (congrArg (fun x => some (Value.int .i64 x)) HKD.out)); (have hp1:w_K0.cell? ⟨w.heap.size,1,none⟩ = some (.int .u32 p.mine):=(blk_cell K0.out.pb 1).trans rfl)) | (go_at_call 76; (refine (age_of K0.out.at_ boot p.mine).mono ?_); (rintro e w1 ⟨rfl,rfl⟩); (skip)) | ((with_reducible refine gate_ (.store 4 (.tmp 40) (.const (.bool true))) rfl ?_); (refine store_F (fun wz => TS w B S g #[.int .i64 p.kind,.int .u32 p.mine,.int .u32 p.boot,.int .u32 p.yours,.int .u32 p.seq,.int .u32 p.ack,.int .u32 p.stamp,.int .u32 p.echo,.complex .f64 p.zr p.zi,.slice Ab p.body.length cb] okq oko (fun _ => False) (L) q o true false false (.slice none 0 0) [] wz) rfl rfl ⟨_,(by have hz1:World.cell? w_K0 ⟨w.heap.size + 1,0,none⟩ = some _:=(blk_cell K0.out.tb 0).trans rfl; have hz2:=blk_frozen K0.out.tb 0; first | (go_simp; done) | (go_simp; rfl)),TS.setT1 K0.out hB 0 _ rfl⟩ (fun w_K1 hF => ?_)); (have K1:=Lib.hid hF); (clear hF); (clear hl1 hp0 hp1); (have hl1:w_K1.cell? ⟨g,1,none⟩ = some (.int .i64 1):=(blk_cell K1.out.at_.blk 1).trans (congrArg (fun x => some (Value.int .i64 x)) HPH.out)); (have hp0:w_K1.cell? ⟨w.heap.size,0,none⟩ = some (.int .i64 1):=(blk_cell K1.out.pb 0).trans (congrArg (fun x => some (Value.int .i64 x)) HKD.out))))
 refine wp_goto ?_
 refine Jump.goto HC.out rfl ?_
 go_wp2_with fail
 have hSS:w_K1.drew.heap[w.heap.size]? = some (.cells #[.int .i64 p.kind,.int .u32 p.mine,.int .u32 p.boot,.int .u32 p.yours,.int .u32 p.seq,.int .u32 p.ack,.int .u32 p.stamp,.int .u32 p.echo,.complex .f64 p.zr p.zi,.slice Ab p.body.length cb] 27 (0,0)):=K1.out.pb
 have hts:=K1.out.drew hB
 clear hl1 hp0
 refine start_ (n:=15) (S:=fun w' => w'.heap[w.heap.size]? = some (.cells #[.int .i64 p.kind,.int .u32 p.mine,.int .u32 p.boot,.int .u32 p.yours,.int .u32 p.seq,.int .u32 p.ack,.int .u32 p.stamp,.int .u32 p.echo,.complex .f64 p.zr p.zi,.slice Ab p.body.length cb] 27 (0,0))) (ds:=[]) M01 (by kernel_rfl) rfl rfl (hSS) (fun hHeld => ?_)
 generalize w_K1.drew = w_Y2 at hts hHeld ⊢
 have KY2:=Lib.hid hts
 clear hts hSS
 refine pure_ (i:=0) (N:=some 63) (v:=?_) (a':=?_) M02 rfl rfl (by kernel_rfl) (fun _ _ _ h => h) (Or.inl ⟨by rfl,?_⟩) ?_ ?_
 rotate_left
 ·intro w'
  go_simp
  with_reducible rfl
 rotate_left
 ·simp only [Act.put,sA,sZ,sS]
  rfl
 refine pure_ (i:=1) (N:=some 64) (v:=?_) (a':=?_) M03 rfl rfl (by kernel_rfl) (fun _ _ _ h => h) (Or.inl ⟨by rfl,?_⟩) ?_ ?_
 rotate_left
 ·intro w'
  go_simp
  with_reducible rfl
 rotate_left
 ·simp only [Act.put,sA,sZ,sS]
  rfl
 refine pure_ (i:=2) (N:=some 65) (v:=?_) (a':=?_) M04 rfl rfl (by kernel_rfl) (fun _ _ _ h => h) (Or.inl ⟨by rfl,?_⟩) ?_ ?_
 rotate_left
 ·intro w'
  go_simp
  with_reducible rfl
 rotate_left
 ·simp only [Act.put,sA,sZ,sS]
  rfl
 refine pure_ (i:=3) (N:=some 66) (v:=?_) (a':=?_) M05 rfl rfl (by kernel_rfl) (fun _ _ _ h => h) (Or.inl ⟨by rfl,?_⟩) ?_ ?_
 rotate_left
 ·intro w'
  go_simp
  with_reducible rfl
 rotate_left
 ·simp only [Act.put,sA,sZ,sS]
  rfl
 refine pure_ (i:=4) (N:=some 67) (v:=?_) (a':=?_) M06 rfl rfl (by kernel_rfl) (fun _ _ _ h => h) (Or.inl ⟨by rfl,?_⟩) ?_ ?_
 rotate_left
 ·intro w'
  go_simp
  with_reducible rfl
 rotate_left
 ·simp only [Act.put,sA,sZ,sS]
  rfl
 refine take_ (i:=5) (N:=some 68) (v:=?_) (a':=?_) M07 rfl rfl (by kernel_rfl) (fun _ _ _ h => h) (Or.inl ⟨by rfl,?_⟩) hHeld ?_ ?_
 rotate_left
 ·intro w' s0
  have hp1:w'.cell? ⟨w.heap.size,1,none⟩ = some (.int .u32 p.mine):=(blk_cell s0 1).trans rfl
  clear s0
  go_simp
  with_reducible rfl
 rotate_left
 ·simp only [Act.put,sA,sZ,sS]
  rfl
 refine pure_ (i:=6) (N:=some 69) (v:=?_) (a':=?_) M08 rfl rfl (by kernel_rfl) (fun _ _ _ h => h) (Or.inl ⟨by rfl,?_⟩) ?_ ?_
 rotate_left
 ·intro w'
  go_simp
  with_reducible rfl
 rotate_left
 ·simp only [Act.put,sA,sZ,sS]
  rfl
 refine pure_ (i:=7) (N:=some 70) (v:=?_) (a':=?_) M09 rfl rfl (by kernel_rfl) (fun _ _ _ h => h) (Or.inl ⟨by rfl,?_⟩) ?_ ?_
 rotate_left
 ·intro w'
  go_simp
  with_reducible rfl
 rotate_left
 ·simp only [Act.put,sA,sZ,sS]
  rfl
 refine one_ (i:=8) (N:=none) M0a rfl rfl (by kernel_rfl) (by decide) (fun K hK => ?_)
 have hz1:w_Y2.cell? ⟨g,3,none⟩ = some _:=(blk_cell KY2.out.at_.blk 3).trans rfl
 have hz2:=blk_frozen KY2.out.at_.blk 3
 refine skip_F (fun wz => TS w B S g #[.int .i64 p.kind,.int .u32 p.mine,.int .u32 p.boot,.int .u32 p.yours,.int .u32 p.seq,.int .u32 p.ack,.int .u32 p.stamp,.int .u32 p.echo,.complex .f64 p.zr p.zi,.slice Ab p.body.length cb] okq oko (fun _ => False) ({ L with boot:=boot }) q o true false false (.slice none 0 0) [] wz) (by rfl) rfl ⟨_,by first | (go_simp; done) | (go_simp; rfl),TS.setL1 KY2.out hB 3 _ rfl rfl rfl⟩ (fun w_K3 hF => ?_)
 have K3:=Lib.hid hF
 clear hF hz1 hz2 hHeld
 refine hK.out _ _ K3.out.pb (fun hHeld => ?_)
 clear hK K
 refine pure_ (i:=9) (N:=some 71) (v:=?_) (a':=?_) M0b rfl rfl (by kernel_rfl) (fun _ _ _ h => h) (Or.inl ⟨by rfl,?_⟩) ?_ ?_
 rotate_left
 ·intro w'
  go_simp
  with_reducible rfl
 rotate_left
 ·simp only [Act.put,sA,sZ,sS]
  rfl
 refine pure_ (i:=10) (N:=some 72) (v:=?_) (a':=?_) M0c rfl rfl (by kernel_rfl) (fun _ _ _ h => h) (Or.inl ⟨by rfl,?_⟩) ?_ ?_
 rotate_left
 ·intro w'
  go_simp
  with_reducible rfl
 rotate_left
 ·simp only [Act.put,sA,sZ,sS]
  rfl
 refine one_ (i:=11) (N:=none) M0d rfl rfl (by kernel_rfl) (by decide) (fun K hK => ?_)
 have hz1:w_K3.cell? ⟨g,4,none⟩ = some _:=(blk_cell K3.out.at_.blk 4).trans rfl
 have hz2:=blk_frozen K3.out.at_.blk 4
 refine skip_F (fun wz => TS w B S g #[.int .i64 p.kind,.int .u32 p.mine,.int .u32 p.boot,.int .u32 p.yours,.int .u32 p.seq,.int .u32 p.ack,.int .u32 p.stamp,.int .u32 p.echo,.complex .f64 p.zr p.zi,.slice Ab p.body.length cb] okq oko (fun _ => False) ({ L with boot:=boot,yours:=p.mine }) q o true false false (.slice none 0 0) [] wz) (by rfl) rfl ⟨_,by first | (go_simp; done) | (go_simp; rfl),TS.setL1 K3.out hB 4 _ rfl rfl rfl⟩ (fun w_K4 hF => ?_)
 have K4:=Lib.hid hF
 clear hF hz1 hz2 hHeld
 refine hK.out _ _ K4.out.pb (fun hHeld => ?_)
 clear hK K
 refine pure_ (i:=12) (N:=some 73) (v:=?_) (a':=?_) M00 rfl rfl (by kernel_rfl) (fun _ _ _ h => h) (Or.inl ⟨by rfl,?_⟩) ?_ ?_
 rotate_left
 ·intro w'
  go_simp
  with_reducible rfl
 rotate_left
 ·simp only [Act.put,sA,sZ,sS]
  rfl
 refine pure_ (i:=13) (N:=some 74) (v:=?_) (a':=?_) M0e rfl rfl (by kernel_rfl) (fun _ _ _ h => h) (Or.inl ⟨by rfl,?_⟩) ?_ ?_
 rotate_left
 ·intro w'
  go_simp
  with_reducible rfl
 rotate_left
 ·simp only [Act.put,sA,sZ,sS]
  rfl
 refine one_ (i:=14) (N:=none) M0f rfl rfl (by kernel_rfl) (by decide) (fun K hK => ?_)
 have hz1:w_K4.cell? ⟨g,5,none⟩ = some _:=(blk_cell K4.out.at_.blk 5).trans rfl
 have hz2:=blk_frozen K4.out.at_.blk 5
 refine skip_F (fun wz => TS w B S g #[.int .i64 p.kind,.int .u32 p.mine,.int .u32 p.boot,.int .u32 p.yours,.int .u32 p.seq,.int .u32 p.ack,.int .u32 p.stamp,.int .u32 p.echo,.complex .f64 p.zr p.zi,.slice Ab p.body.length cb] okq oko (fun _ => False) ({ L with boot:=boot,yours:=p.mine,known:=true }) q o true false false (.slice none 0 0) [] wz) (by rfl) rfl ⟨_,by first | (go_simp; done) | (go_simp; rfl),TS.setL1 K4.out hB 5 _ rfl rfl rfl⟩ (fun w_K5 hF => ?_)
 have K5:=Lib.hid hF
 clear hF hz1 hz2 hHeld
 refine hK.out _ _ K5.out.pb (fun hHeld => ?_)
 clear hK K
 refine done_ (by kernel_rfl) ?_
 clear hHeld
 go_wp2_with (first | ((with_reducible refine gate_dst (N:=76) rfl ?_); (refine wpList_load_row rfl 27 (.tmp 5) rfl w.heap.size (by rfl) 27 _ (0,0) _ (by first | exact K5.out.pb | exact (K5.out.drewN hB _).pb) Try.underlying27 rfl (by kernel_rfl) ?_)) | (go_at_call 77; (refine (meant_of K5.out.at_ p (.slice Ab p.body.length cb)).mono ?_); (rintro e w_K6 ⟨rfl,hb⟩); (have hme:meantF ({ L with boot:=boot,yours:=p.mine,known:=true }) p = false:=HMN.out); (rw [hme]); (clear hme); (have K6:=Lib.hid (K5.out.sub hB hb)); (clear hb)) | (go_at_call 73; (refine (hello_of K6.out.at_ (OKP.out) (Nat.le_trans hB K6.out.kept.1)).mono ?_); (rintro e w_K7 ⟨rfl,hE⟩); (obtain ⟨oko_K7,o_K7,hF⟩:=TS.emits K6.out hB hE); (clear hE); (have K7:=Lib.hid hF); (clear hF)))
 refine wp_goto ?_
 refine Jump.goto HC.out rfl ?_
 go_wp2_with (first | ((with_reducible refine gate_dst (N:=207) rfl ?_); (refine wpList_load_row rfl 56 (.tmp 6) rfl (w.heap.size + 1) (by rfl) 56 _ (0,0) _ (by first | exact K7.out.tb | exact (K7.out.drewN hB _).tb) Try.underlying56 rfl (by kernel_rfl) ?_)) | ((with_reducible refine gate_ (.store 56 (.tmp 6) (.tmp 207)) rfl ?_); (refine store_row_F rfl rfl 56 (.tmp 6) (.tmp 207) rfl (w.heap.size + 1) _ rfl rfl 56 _ (by first | exact K7.out.tb | exact (K7.out.drewN hB _).tb) (by kernel_rfl) rfl (by kernel_rfl) ?_); (intro w_K8 hb9 hat9); (have hF:=TS.setT (by first | exact K7.out | exact K7.out.drewN hB _ | exact K7.out.drew hB) hB hat9 hb9 (by first | exact K7.out.brow | exact (K7.out.drewN hB _).brow) (by first | exact K7.out.okb | exact (K7.out.drewN hB _).okb)); (have K8:=Lib.hid hF); (clear hF hb9 hat9)))
 refine Jump.ret ?_
 refine bodyPost_ret ?_ rfl (K8.out.ends)
 exact results_cell2 Try.results34 _ _ rfl rfl (run_loadVar_row (P:=Try.prog) _ (w.heap.size + 1) 56 56 _ (0,0) _ K8.out.tb Try.underlying56 rfl (by kernel_rfl))
set_option maxRecDepth 100000 in
set_option maxHeartbeats 4000000 in
theorem take_again1 {w:World} {B g:Nat} {okq oko S:Nat → Prop} {L:Lk} {q o:Value} (h:At w B okq oko g L q o) (hok:L.Ok) (hS:∀ k,holds okq oko g k → S k) (hB:B ≤ w.heap.size) (boot:Int) (p:Pkt) (Ab:Option Addr) (cb:Nat)
  (hb0:boot ≠ 0) (hbr:0 ≤ boot ∧ boot < 4294967296) (hpr:p.Rng) (hck:checkP p.kind p.mine p.boot p.yours p.seq p.ack p.stamp p.echo p.zr p.zi p.body.length = 0)  (hph:L.phase = 2) (hag:ageF L boot p.mine = 0) (hkd:p.kind = 1) (hsq:p.seq = 0) :
  Calls Try.prog 34 #[.pointer (some ⟨g,0,none⟩),.int .u32 boot,.agg #[.int .i64 p.kind,.int .u32 p.mine,.int .u32 p.boot,.int .u32 p.yours,.int .u32 p.seq,.int .u32 p.ack,.int .u32 p.stamp,.int .u32 p.echo,.complex .f64 p.zr p.zi,.slice Ab p.body.length cb]] w fun e w' => Took w B S g (emit_ L (helloP L)) true false false [] e w':=by
 have HG0:=Lib.hid (show (((w.alloc (.cells #[.int .i64 p.kind,.int .u32 p.mine,.int .u32 p.boot,.int .u32 p.yours,.int .u32 p.seq,.int .u32 p.ack,.int .u32 p.stamp,.int .u32 p.echo,.complex .f64 p.zr p.zi,.slice Ab p.body.length cb] 27)).alloc (.cells #[.bool false,.bool false,.bool false,.slice none 0 0] 56))).heap[w.heap.size]? = some (.cells #[.int .i64 p.kind,.int .u32 p.mine,.int .u32 p.boot,.int .u32 p.yours,.int .u32 p.seq,.int .u32 p.ack,.int .u32 p.stamp,.int .u32 p.echo,.complex .f64 p.zr p.zi,.slice Ab p.body.length cb] 27 (0,0)) from (Below.heap_alloc _ _ _ (by simp)).trans (heap_alloc_new w _))
 have H:=Lib.hid h
 have OK:=Lib.hid hok
 have HS:=Lib.hid hS
 have HPR:=Lib.hid hpr
 have HCK:=Lib.hid hck
 have hbz:(boot == 0) = false:=by simp [hb0]
 have HPH:=Lib.hid hph
 clear hph
 have HAG:=Lib.hid hag
 clear hag
 have HKD:=Lib.hid hkd
 clear hkd
 have hd3:(p.seq == 0) = true:=by simp [hsq]
 clear hsq hbr
 clear h hok hS hpr hck hb0
 go_enter Try.func34,Try.ntmps34
 go_wp2_with fail
 refine wp_scope_hid 3 (fun C HC => ?_)
 go_wp2_with (first | ((with_reducible refine gate_dst (N:=17) rfl ?_); (refine wpList_load_row rfl 27 (.tmp 5) rfl w.heap.size (by rfl) 27 #[.int .i64 p.kind,.int .u32 p.mine,.int .u32 p.boot,.int .u32 p.yours,.int .u32 p.seq,.int .u32 p.ack,.int .u32 p.stamp,.int .u32 p.echo,.complex .f64 p.zr p.zi,.slice Ab p.body.length cb] (0,0) _ HG0.out Try.underlying27 rfl (by kernel_rfl) ?_)) | (go_at_call 20; (refine (check_any _ _ _ _ _ _ _ _ _ _ _ _ _ _ HPR.out.zr HPR.out.zi).mono ?_); (rintro e w_K0 ⟨rfl,hb⟩); (rw [HCK.out]); (have K0:=Lib.hid (TS.start (pc:=#[.int .i64 p.kind,.int .u32 p.mine,.int .u32 p.boot,.int .u32 p.yours,.int .u32 p.seq,.int .u32 p.ack,.int .u32 p.stamp,.int .u32 p.echo,.complex .f64 p.zr p.zi,.slice Ab p.body.length cb]) H.out HS.out hB (hb.mono (by simp)))); (clear hb); (have hl1:w_K0.cell? ⟨g,1,none⟩ = some (.int .i64 2):=(blk_cell K0.out.at_.blk 1).trans (congrArg (fun x => some (Value.int .i64 x)) HPH.out)); (have hp0:w_K0.cell? ⟨w.heap.size,0,none⟩ = some (.int .i64 1):=(blk_cell K0.out.pb 0).trans (congrArg (fun x => some (Value.int .i64 x)) HKD.out)); (have hp1:w_K0.cell? ⟨w.heap.size,1,none⟩ = some (.int .u32 p.mine):=(blk_cell K0.out.pb 1).trans rfl)) | (go_at_call 76; (refine (age_of K0.out.at_ boot p.mine).mono ?_); (rintro e w1 ⟨rfl,rfl⟩); (rw [HAG.out])) | ((with_reducible refine gate_ (.store 4 (.tmp 40) (.const (.bool true))) rfl ?_); (refine store_F (fun wz => TS w B S g #[.int .i64 p.kind,.int .u32 p.mine,.int .u32 p.boot,.int .u32 p.yours,.int .u32 p.seq,.int .u32 p.ack,.int .u32 p.stamp,.int .u32 p.echo,.complex .f64 p.zr p.zi,.slice Ab p.body.length cb] okq oko (fun _ => False) (L) q o true false false (.slice none 0 0) [] wz) rfl rfl ⟨_,(by have hz1:World.cell? w_K0 ⟨w.heap.size + 1,0,none⟩ = some _:=(blk_cell K0.out.tb 0).trans rfl; have hz2:=blk_frozen K0.out.tb 0; first | (go_simp; done) | (go_simp; rfl)),TS.setT1 K0.out hB 0 _ rfl⟩ (fun w_K1 hF => ?_)); (have K1:=Lib.hid hF); (clear hF); (clear hl1 hp0 hp1); (have hl1:w_K1.cell? ⟨g,1,none⟩ = some (.int .i64 2):=(blk_cell K1.out.at_.blk 1).trans (congrArg (fun x => some (Value.int .i64 x)) HPH.out)); (have hp4:w_K1.cell? ⟨w.heap.size,4,none⟩ = some (.int .u32 p.seq):=(blk_cell K1.out.pb 4).trans rfl)))
 refine wp_goto ?_
 refine Jump.goto HC.out rfl ?_
 go_wp2_with (first | (go_at_call 73; (refine (hello_of K1.out.at_ (OK.out) (Nat.le_trans hB K1.out.kept.1)).mono ?_); (rintro e w_K2 ⟨rfl,hE⟩); (obtain ⟨oko_K2,o_K2,hF⟩:=TS.emits K1.out hB hE); (clear hE); (have K2:=Lib.hid hF); (clear hF); (clear hl1 hp4)))
 refine wp_goto ?_
 refine Jump.goto HC.out rfl ?_
 go_wp2_with (first | ((with_reducible refine gate_dst (N:=207) rfl ?_); (refine wpList_load_row rfl 56 (.tmp 6) rfl (w.heap.size + 1) (by rfl) 56 _ (0,0) _ (by first | exact K2.out.tb | exact (K2.out.drewN hB _).tb) Try.underlying56 rfl (by kernel_rfl) ?_)) | ((with_reducible refine gate_ (.store 56 (.tmp 6) (.tmp 207)) rfl ?_); (refine store_row_F rfl rfl 56 (.tmp 6) (.tmp 207) rfl (w.heap.size + 1) _ rfl rfl 56 _ (by first | exact K2.out.tb | exact (K2.out.drewN hB _).tb) (by kernel_rfl) rfl (by kernel_rfl) ?_); (intro w_K3 hb9 hat9); (have hF:=TS.setT (by first | exact K2.out | exact K2.out.drewN hB _ | exact K2.out.drew hB) hB hat9 hb9 (by first | exact K2.out.brow | exact (K2.out.drewN hB _).brow) (by first | exact K2.out.okb | exact (K2.out.drewN hB _).okb)); (have K3:=Lib.hid hF); (clear hF hb9 hat9)))
 refine Jump.ret ?_
 refine bodyPost_ret ?_ rfl (K3.out.ends)
 exact results_cell2 Try.results34 _ _ rfl rfl (run_loadVar_row (P:=Try.prog) _ (w.heap.size + 1) 56 56 _ (0,0) _ K3.out.tb Try.underlying56 rfl (by kernel_rfl))
set_option maxRecDepth 100000 in
set_option maxHeartbeats 4000000 in
theorem take_again0 {w:World} {B g:Nat} {okq oko S:Nat → Prop} {L:Lk} {q o:Value} (h:At w B okq oko g L q o) (hok:L.Ok) (hS:∀ k,holds okq oko g k → S k) (hB:B ≤ w.heap.size) (boot:Int) (p:Pkt) (Ab:Option Addr) (cb:Nat)
  (hb0:boot ≠ 0) (hbr:0 ≤ boot ∧ boot < 4294967296) (hpr:p.Rng) (hck:checkP p.kind p.mine p.boot p.yours p.seq p.ack p.stamp p.echo p.zr p.zi p.body.length = 0)  (hph:L.phase = 2) (hag:ageF L boot p.mine = 0) (hkd:p.kind = 1) (hsq:¬ p.seq = 0) :
  Calls Try.prog 34 #[.pointer (some ⟨g,0,none⟩),.int .u32 boot,.agg #[.int .i64 p.kind,.int .u32 p.mine,.int .u32 p.boot,.int .u32 p.yours,.int .u32 p.seq,.int .u32 p.ack,.int .u32 p.stamp,.int .u32 p.echo,.complex .f64 p.zr p.zi,.slice Ab p.body.length cb]] w fun e w' => Took w B S g (L) true false false [] e w':=by
 have HG0:=Lib.hid (show (((w.alloc (.cells #[.int .i64 p.kind,.int .u32 p.mine,.int .u32 p.boot,.int .u32 p.yours,.int .u32 p.seq,.int .u32 p.ack,.int .u32 p.stamp,.int .u32 p.echo,.complex .f64 p.zr p.zi,.slice Ab p.body.length cb] 27)).alloc (.cells #[.bool false,.bool false,.bool false,.slice none 0 0] 56))).heap[w.heap.size]? = some (.cells #[.int .i64 p.kind,.int .u32 p.mine,.int .u32 p.boot,.int .u32 p.yours,.int .u32 p.seq,.int .u32 p.ack,.int .u32 p.stamp,.int .u32 p.echo,.complex .f64 p.zr p.zi,.slice Ab p.body.length cb] 27 (0,0)) from (Below.heap_alloc _ _ _ (by simp)).trans (heap_alloc_new w _))
 have H:=Lib.hid h
 have OK:=Lib.hid hok
 have HS:=Lib.hid hS
 have HPR:=Lib.hid hpr
 have HCK:=Lib.hid hck
 have hbz:(boot == 0) = false:=by simp [hb0]
 have HPH:=Lib.hid hph
 clear hph
 have HAG:=Lib.hid hag
 clear hag
 have HKD:=Lib.hid hkd
 clear hkd
 have hd3:(p.seq == 0) = false:=by simp [hsq]
 clear hsq hbr
 clear h hok hS hpr hck hb0
 go_enter Try.func34,Try.ntmps34
 go_wp2_with fail
 refine wp_scope_hid 3 (fun C HC => ?_)
 go_wp2_with (first | ((with_reducible refine gate_dst (N:=17) rfl ?_); (refine wpList_load_row rfl 27 (.tmp 5) rfl w.heap.size (by rfl) 27 #[.int .i64 p.kind,.int .u32 p.mine,.int .u32 p.boot,.int .u32 p.yours,.int .u32 p.seq,.int .u32 p.ack,.int .u32 p.stamp,.int .u32 p.echo,.complex .f64 p.zr p.zi,.slice Ab p.body.length cb] (0,0) _ HG0.out Try.underlying27 rfl (by kernel_rfl) ?_)) | (go_at_call 20; (refine (check_any _ _ _ _ _ _ _ _ _ _ _ _ _ _ HPR.out.zr HPR.out.zi).mono ?_); (rintro e w_K0 ⟨rfl,hb⟩); (rw [HCK.out]); (have K0:=Lib.hid (TS.start (pc:=#[.int .i64 p.kind,.int .u32 p.mine,.int .u32 p.boot,.int .u32 p.yours,.int .u32 p.seq,.int .u32 p.ack,.int .u32 p.stamp,.int .u32 p.echo,.complex .f64 p.zr p.zi,.slice Ab p.body.length cb]) H.out HS.out hB (hb.mono (by simp)))); (clear hb); (have hl1:w_K0.cell? ⟨g,1,none⟩ = some (.int .i64 2):=(blk_cell K0.out.at_.blk 1).trans (congrArg (fun x => some (Value.int .i64 x)) HPH.out)); (have hp0:w_K0.cell? ⟨w.heap.size,0,none⟩ = some (.int .i64 1):=(blk_cell K0.out.pb 0).trans (congrArg (fun x => some (Value.int .i64 x)) HKD.out)); (have hp1:w_K0.cell? ⟨w.heap.size,1,none⟩ = some (.int .u32 p.mine):=(blk_cell K0.out.pb 1).trans rfl)) | (go_at_call 76; (refine (age_of K0.out.at_ boot p.mine).mono ?_); (rintro e w1 ⟨rfl,rfl⟩); (rw [HAG.out])) | ((with_reducible refine gate_ (.store 4 (.tmp 40) (.const (.bool true))) rfl ?_); (refine store_F (fun wz => TS w B S g #[.int .i64 p.kind,.int .u32 p.mine,.int .u32 p.boot,.int .u32 p.yours,.int .u32 p.seq,.int .u32 p.ack,.int .u32 p.stamp,.int .u32 p.echo,.complex .f64 p.zr p.zi,.slice Ab p.body.length cb] okq oko (fun _ => False) (L) q o true false false (.slice none 0 0) [] wz) rfl rfl ⟨_,(by have hz1:World.cell? w_K0 ⟨w.heap.size + 1,0,none⟩ = some _:=(blk_cell K0.out.tb 0).trans rfl; have hz2:=blk_frozen K0.out.tb 0; first | (go_simp; done) | (go_simp; rfl)),TS.setT1 K0.out hB 0 _ rfl⟩ (fun w_K1 hF => ?_)); (have K1:=Lib.hid hF); (clear hF); (clear hl1 hp0 hp1); (have hl1:w_K1.cell? ⟨g,1,none⟩ = some (.int .i64 2):=(blk_cell K1.out.at_.blk 1).trans (congrArg (fun x => some (Value.int .i64 x)) HPH.out)); (have hp4:w_K1.cell? ⟨w.heap.size,4,none⟩ = some (.int .u32 p.seq):=(blk_cell K1.out.pb 4).trans rfl)))
 refine wp_goto ?_
 refine Jump.goto HC.out rfl ?_
 go_wp2_with fail
 refine wp_goto ?_
 refine Jump.goto HC.out rfl ?_
 go_wp2_with (first | ((with_reducible refine gate_dst (N:=207) rfl ?_); (refine wpList_load_row rfl 56 (.tmp 6) rfl (w.heap.size + 1) (by rfl) 56 _ (0,0) _ (by first | exact K1.out.tb | exact (K1.out.drewN hB _).tb) Try.underlying56 rfl (by kernel_rfl) ?_)) | ((with_reducible refine gate_ (.store 56 (.tmp 6) (.tmp 207)) rfl ?_); (refine store_row_F rfl rfl 56 (.tmp 6) (.tmp 207) rfl (w.heap.size + 1) _ rfl rfl 56 _ (by first | exact K1.out.tb | exact (K1.out.drewN hB _).tb) (by kernel_rfl) rfl (by kernel_rfl) ?_); (intro w_K2 hb9 hat9); (have hF:=TS.setT (by first | exact K1.out | exact K1.out.drewN hB _ | exact K1.out.drew hB) hB hat9 hb9 (by first | exact K1.out.brow | exact (K1.out.drewN hB _).brow) (by first | exact K1.out.okb | exact (K1.out.drewN hB _).okb)); (have K2:=Lib.hid hF); (clear hF hb9 hat9)))
 refine Jump.ret ?_
 refine bodyPost_ret ?_ rfl (K2.out.ends)
 exact results_cell2 Try.results34 _ _ rfl rfl (run_loadVar_row (P:=Try.prog) _ (w.heap.size + 1) 56 56 _ (0,0) _ K2.out.tb Try.underlying56 rfl (by kernel_rfl))
set_option maxRecDepth 100000 in
set_option maxHeartbeats 4000000 in
theorem take_anew1 {w:World} {B g:Nat} {okq oko S:Nat → Prop} {L:Lk} {q o:Value} (h:At w B okq oko g L q o) (hok:L.Ok) (hS:∀ k,holds okq oko g k → S k) (hB:B ≤ w.heap.size) (boot:Int) (p:Pkt) (Ab:Option Addr) (cb:Nat)
  (hb0:boot ≠ 0) (hbr:0 ≤ boot ∧ boot < 4294967296) (hpr:p.Rng) (hck:checkP p.kind p.mine p.boot p.yours p.seq p.ack p.stamp p.echo p.zr p.zi p.body.length = 0)  (hph:L.phase = 2) (hag:ageF L boot p.mine = 1) (hkd:p.kind = 1) (hmx:L.token = 4294967295) :
  Calls Try.prog 34 #[.pointer (some ⟨g,0,none⟩),.int .u32 boot,.agg #[.int .i64 p.kind,.int .u32 p.mine,.int .u32 p.boot,.int .u32 p.yours,.int .u32 p.seq,.int .u32 p.ack,.int .u32 p.stamp,.int .u32 p.echo,.complex .f64 p.zr p.zi,.slice Ab p.body.length cb]] w fun e w' => Took w B S g (shut_ L) true false true [] e w':=by
 have HG0:=Lib.hid (show (((w.alloc (.cells #[.int .i64 p.kind,.int .u32 p.mine,.int .u32 p.boot,.int .u32 p.yours,.int .u32 p.seq,.int .u32 p.ack,.int .u32 p.stamp,.int .u32 p.echo,.complex .f64 p.zr p.zi,.slice Ab p.body.length cb] 27)).alloc (.cells #[.bool false,.bool false,.bool false,.slice none 0 0] 56))).heap[w.heap.size]? = some (.cells #[.int .i64 p.kind,.int .u32 p.mine,.int .u32 p.boot,.int .u32 p.yours,.int .u32 p.seq,.int .u32 p.ack,.int .u32 p.stamp,.int .u32 p.echo,.complex .f64 p.zr p.zi,.slice Ab p.body.length cb] 27 (0,0)) from (Below.heap_alloc _ _ _ (by simp)).trans (heap_alloc_new w _))
 have H:=Lib.hid h
 have OK:=Lib.hid hok
 have HS:=Lib.hid hS
 have HPR:=Lib.hid hpr
 have HCK:=Lib.hid hck
 have hbz:(boot == 0) = false:=by simp [hb0]
 have HPH:=Lib.hid hph
 clear hph
 have HAG:=Lib.hid hag
 clear hag
 have HKD:=Lib.hid hkd
 clear hkd
 have hd3:(L.token == 4294967295) = true:=by simp [hmx]
 clear hmx hbr
 clear h hok hS hpr hck hb0
 go_enter Try.func34,Try.ntmps34
 go_wp2_with fail
 refine wp_scope_hid 3 (fun C HC => ?_)
 go_wp2_with (first | ((with_reducible refine gate_dst (N:=17) rfl ?_); (refine wpList_load_row rfl 27 (.tmp 5) rfl w.heap.size (by rfl) 27 #[.int .i64 p.kind,.int .u32 p.mine,.int .u32 p.boot,.int .u32 p.yours,.int .u32 p.seq,.int .u32 p.ack,.int .u32 p.stamp,.int .u32 p.echo,.complex .f64 p.zr p.zi,.slice Ab p.body.length cb] (0,0) _ HG0.out Try.underlying27 rfl (by kernel_rfl) ?_)) | (go_at_call 20; (refine (check_any _ _ _ _ _ _ _ _ _ _ _ _ _ _ HPR.out.zr HPR.out.zi).mono ?_); (rintro e w_K0 ⟨rfl,hb⟩); (rw [HCK.out]); (have K0:=Lib.hid (TS.start (pc:=#[.int .i64 p.kind,.int .u32 p.mine,.int .u32 p.boot,.int .u32 p.yours,.int .u32 p.seq,.int .u32 p.ack,.int .u32 p.stamp,.int .u32 p.echo,.complex .f64 p.zr p.zi,.slice Ab p.body.length cb]) H.out HS.out hB (hb.mono (by simp)))); (clear hb); (have hl1:w_K0.cell? ⟨g,1,none⟩ = some (.int .i64 2):=(blk_cell K0.out.at_.blk 1).trans (congrArg (fun x => some (Value.int .i64 x)) HPH.out)); (have hp0:w_K0.cell? ⟨w.heap.size,0,none⟩ = some (.int .i64 1):=(blk_cell K0.out.pb 0).trans (congrArg (fun x => some (Value.int .i64 x)) HKD.out)); (have hp1:w_K0.cell? ⟨w.heap.size,1,none⟩ = some (.int .u32 p.mine):=(blk_cell K0.out.pb 1).trans rfl)) | (go_at_call 76; (refine (age_of K0.out.at_ boot p.mine).mono ?_); (rintro e w1 ⟨rfl,rfl⟩); (rw [HAG.out])) | ((with_reducible refine gate_ (.store 4 (.tmp 40) (.const (.bool true))) rfl ?_); (refine store_F (fun wz => TS w B S g #[.int .i64 p.kind,.int .u32 p.mine,.int .u32 p.boot,.int .u32 p.yours,.int .u32 p.seq,.int .u32 p.ack,.int .u32 p.stamp,.int .u32 p.echo,.complex .f64 p.zr p.zi,.slice Ab p.body.length cb] okq oko (fun _ => False) (L) q o true false false (.slice none 0 0) [] wz) rfl rfl ⟨_,(by have hz1:World.cell? w_K0 ⟨w.heap.size + 1,0,none⟩ = some _:=(blk_cell K0.out.tb 0).trans rfl; have hz2:=blk_frozen K0.out.tb 0; first | (go_simp; done) | (go_simp; rfl)),TS.setT1 K0.out hB 0 _ rfl⟩ (fun w_K1 hF => ?_)); (have K1:=Lib.hid hF); (clear hF); (clear hl1 hp0 hp1); (have hl1:w_K1.cell? ⟨g,1,none⟩ = some (.int .i64 2):=(blk_cell K1.out.at_.blk 1).trans (congrArg (fun x => some (Value.int .i64 x)) HPH.out)); (have hp0:w_K1.cell? ⟨w.heap.size,0,none⟩ = some (.int .i64 1):=(blk_cell K1.out.pb 0).trans (congrArg (fun x => some (Value.int .i64 x)) HKD.out))))
 refine wp_goto ?_
 refine Jump.goto HC.out rfl ?_
 go_wp2_with (first | ((with_reducible refine gate_ (.store 4 (.tmp 89) (.const (.bool true))) rfl ?_); (refine store_F (fun wz => TS w B S g #[.int .i64 p.kind,.int .u32 p.mine,.int .u32 p.boot,.int .u32 p.yours,.int .u32 p.seq,.int .u32 p.ack,.int .u32 p.stamp,.int .u32 p.echo,.complex .f64 p.zr p.zi,.slice Ab p.body.length cb] okq oko (fun _ => False) (L) q o true false true (.slice none 0 0) [] wz) rfl rfl ⟨_,(by have hz1:World.cell? w_K1 ⟨w.heap.size + 1,2,none⟩ = some _:=(blk_cell K1.out.tb 2).trans rfl; have hz2:=blk_frozen K1.out.tb 2; first | (go_simp; done) | (go_simp; rfl)),TS.setT1 K1.out hB 2 _ rfl⟩ (fun w_K2 hF => ?_)); (have K2:=Lib.hid hF); (clear hF); (clear hl1 hp0); (have hl2:w_K2.cell? ⟨g,2,none⟩ = some (.int .u32 L.token):=(blk_cell K2.out.at_.blk 2).trans rfl)) | (go_at_call 78; (refine (shut_of K2.out.at_).mono ?_); (rintro e w_K3 ⟨rfl,h1,hat⟩); (have K3:=Lib.hid (K2.out.setL hB hat h1 (fun _ hf => hf.elim))); (clear h1 hat); (clear hl2)))
 refine wp_goto ?_
 refine Jump.goto HC.out rfl ?_
 go_wp2_with (first | ((with_reducible refine gate_dst (N:=207) rfl ?_); (refine wpList_load_row rfl 56 (.tmp 6) rfl (w.heap.size + 1) (by rfl) 56 _ (0,0) _ (by first | exact K3.out.tb | exact (K3.out.drewN hB _).tb) Try.underlying56 rfl (by kernel_rfl) ?_)) | ((with_reducible refine gate_ (.store 56 (.tmp 6) (.tmp 207)) rfl ?_); (refine store_row_F rfl rfl 56 (.tmp 6) (.tmp 207) rfl (w.heap.size + 1) _ rfl rfl 56 _ (by first | exact K3.out.tb | exact (K3.out.drewN hB _).tb) (by kernel_rfl) rfl (by kernel_rfl) ?_); (intro w_K4 hb9 hat9); (have hF:=TS.setT (by first | exact K3.out | exact K3.out.drewN hB _ | exact K3.out.drew hB) hB hat9 hb9 (by first | exact K3.out.brow | exact (K3.out.drewN hB _).brow) (by first | exact K3.out.okb | exact (K3.out.drewN hB _).okb)); (have K4:=Lib.hid hF); (clear hF hb9 hat9)))
 refine Jump.ret ?_
 refine bodyPost_ret ?_ rfl (K4.out.ends)
 exact results_cell2 Try.results34 _ _ rfl rfl (run_loadVar_row (P:=Try.prog) _ (w.heap.size + 1) 56 56 _ (0,0) _ K4.out.tb Try.underlying56 rfl (by kernel_rfl))
set_option maxRecDepth 100000 in
set_option maxHeartbeats 4000000 in
theorem take_anew0 {w:World} {B g:Nat} {okq oko S:Nat → Prop} {L:Lk} {q o:Value} (h:At w B okq oko g L q o) (hok:L.Ok) (hS:∀ k,holds okq oko g k → S k) (hB:B ≤ w.heap.size) (boot:Int) (p:Pkt) (Ab:Option Addr) (cb:Nat)
  (hb0:boot ≠ 0) (hbr:0 ≤ boot ∧ boot < 4294967296) (hpr:p.Rng) (hck:checkP p.kind p.mine p.boot p.yours p.seq p.ack p.stamp p.echo p.zr p.zi p.body.length = 0)  (hph:L.phase = 2) (hag:ageF L boot p.mine = 1) (hkd:p.kind = 1) (hmx:¬ L.token = 4294967295) :
  Calls Try.prog 34 #[.pointer (some ⟨g,0,none⟩),.int .u32 boot,.agg #[.int .i64 p.kind,.int .u32 p.mine,.int .u32 p.boot,.int .u32 p.yours,.int .u32 p.seq,.int .u32 p.ack,.int .u32 p.stamp,.int .u32 p.echo,.complex .f64 p.zr p.zi,.slice Ab p.body.length cb]] w fun e w' => Took w B S g (emit_ ({ begin_ L with boot:=boot,yours:=p.mine,known:=true }) (helloP ({ begin_ L with boot:=boot,yours:=p.mine,known:=true }))) true false true [] e w':=by
 have HG0:=Lib.hid (show (((w.alloc (.cells #[.int .i64 p.kind,.int .u32 p.mine,.int .u32 p.boot,.int .u32 p.yours,.int .u32 p.seq,.int .u32 p.ack,.int .u32 p.stamp,.int .u32 p.echo,.complex .f64 p.zr p.zi,.slice Ab p.body.length cb] 27)).alloc (.cells #[.bool false,.bool false,.bool false,.slice none 0 0] 56))).heap[w.heap.size]? = some (.cells #[.int .i64 p.kind,.int .u32 p.mine,.int .u32 p.boot,.int .u32 p.yours,.int .u32 p.seq,.int .u32 p.ack,.int .u32 p.stamp,.int .u32 p.echo,.complex .f64 p.zr p.zi,.slice Ab p.body.length cb] 27 (0,0)) from (Below.heap_alloc _ _ _ (by simp)).trans (heap_alloc_new w _))
 have H:=Lib.hid h
 have OK:=Lib.hid hok
 have HS:=Lib.hid hS
 have HPR:=Lib.hid hpr
 have HCK:=Lib.hid hck
 have hbz:(boot == 0) = false:=by simp [hb0]
 have HPH:=Lib.hid hph
 clear hph
 have HAG:=Lib.hid hag
 clear hag
 have HKD:=Lib.hid hkd
 clear hkd
 have hd3:(L.token == 4294967295) = false:=by simp [hmx]
 have htk:L.token < 4294967295:=by have:=OK.out.token; omega
 have HTK:=Lib.hid htk
 clear htk
 have OKP:=Lib.hid (peer_ok (begin_ok OK.out HTK.out) hbr HPR.out.mine true)
 clear hmx hbr
 clear h hok hS hpr hck hb0
 go_enter Try.func34,Try.ntmps34
 go_wp2_with fail
 refine wp_scope_hid 3 (fun C HC => ?_)
 go_wp2_with (first | ((with_reducible refine gate_dst (N:=17) rfl ?_); (refine wpList_load_row rfl 27 (.tmp 5) rfl w.heap.size (by rfl) 27 #[.int .i64 p.kind,.int .u32 p.mine,.int .u32 p.boot,.int .u32 p.yours,.int .u32 p.seq,.int .u32 p.ack,.int .u32 p.stamp,.int .u32 p.echo,.complex .f64 p.zr p.zi,.slice Ab p.body.length cb] (0,0) _ HG0.out Try.underlying27 rfl (by kernel_rfl) ?_)) | (go_at_call 20; (refine (check_any _ _ _ _ _ _ _ _ _ _ _ _ _ _ HPR.out.zr HPR.out.zi).mono ?_); (rintro e w_K0 ⟨rfl,hb⟩); (rw [HCK.out]); (have K0:=Lib.hid (TS.start (pc:=#[.int .i64 p.kind,.int .u32 p.mine,.int .u32 p.boot,.int .u32 p.yours,.int .u32 p.seq,.int .u32 p.ack,.int .u32 p.stamp,.int .u32 p.echo,.complex .f64 p.zr p.zi,.slice Ab p.body.length cb]) H.out HS.out hB (hb.mono (by simp)))); (clear hb); (have hl1:w_K0.cell? ⟨g,1,none⟩ = some (.int .i64 2):=(blk_cell K0.out.at_.blk 1).trans (congrArg (fun x => some (Value.int .i64 x)) HPH.out)); (have hp0:w_K0.cell? ⟨w.heap.size,0,none⟩ = some (.int .i64 1):=(blk_cell K0.out.pb 0).trans (congrArg (fun x => some (Value.int .i64 x)) HKD.out)); (have hp1:w_K0.cell? ⟨w.heap.size,1,none⟩ = some (.int .u32 p.mine):=(blk_cell K0.out.pb 1).trans rfl)) | (go_at_call 76; (refine (age_of K0.out.at_ boot p.mine).mono ?_); (rintro e w1 ⟨rfl,rfl⟩); (rw [HAG.out])) | ((with_reducible refine gate_ (.store 4 (.tmp 40) (.const (.bool true))) rfl ?_); (refine store_F (fun wz => TS w B S g #[.int .i64 p.kind,.int .u32 p.mine,.int .u32 p.boot,.int .u32 p.yours,.int .u32 p.seq,.int .u32 p.ack,.int .u32 p.stamp,.int .u32 p.echo,.complex .f64 p.zr p.zi,.slice Ab p.body.length cb] okq oko (fun _ => False) (L) q o true false false (.slice none 0 0) [] wz) rfl rfl ⟨_,(by have hz1:World.cell? w_K0 ⟨w.heap.size + 1,0,none⟩ = some _:=(blk_cell K0.out.tb 0).trans rfl; have hz2:=blk_frozen K0.out.tb 0; first | (go_simp; done) | (go_simp; rfl)),TS.setT1 K0.out hB 0 _ rfl⟩ (fun w_K1 hF => ?_)); (have K1:=Lib.hid hF); (clear hF); (clear hl1 hp0 hp1); (have hl1:w_K1.cell? ⟨g,1,none⟩ = some (.int .i64 2):=(blk_cell K1.out.at_.blk 1).trans (congrArg (fun x => some (Value.int .i64 x)) HPH.out)); (have hp0:w_K1.cell? ⟨w.heap.size,0,none⟩ = some (.int .i64 1):=(blk_cell K1.out.pb 0).trans (congrArg (fun x => some (Value.int .i64 x)) HKD.out))))
 refine wp_goto ?_
 refine Jump.goto HC.out rfl ?_
 go_wp2_with (first | ((with_reducible refine gate_ (.store 4 (.tmp 89) (.const (.bool true))) rfl ?_); (refine store_F (fun wz => TS w B S g #[.int .i64 p.kind,.int .u32 p.mine,.int .u32 p.boot,.int .u32 p.yours,.int .u32 p.seq,.int .u32 p.ack,.int .u32 p.stamp,.int .u32 p.echo,.complex .f64 p.zr p.zi,.slice Ab p.body.length cb] okq oko (fun _ => False) (L) q o true false true (.slice none 0 0) [] wz) rfl rfl ⟨_,(by have hz1:World.cell? w_K1 ⟨w.heap.size + 1,2,none⟩ = some _:=(blk_cell K1.out.tb 2).trans rfl; have hz2:=blk_frozen K1.out.tb 2; first | (go_simp; done) | (go_simp; rfl)),TS.setT1 K1.out hB 2 _ rfl⟩ (fun w_K2 hF => ?_)); (have K2:=Lib.hid hF); (clear hF); (clear hl1 hp0); (have hl2:w_K2.cell? ⟨g,2,none⟩ = some (.int .u32 L.token):=(blk_cell K2.out.at_.blk 2).trans rfl)) | (go_at_call 72; (refine (begin_of K2.out.at_ OK.out HTK.out).mono ?_); (rintro e w_K3 ⟨rfl,h1,hat⟩); (have K3:=Lib.hid (K2.out.setL hB hat h1 (fun _ hf => hf.elim))); (clear h1 hat); (clear hl2)))
 have hSS:w_K3.drew.heap[w.heap.size]? = some (.cells #[.int .i64 p.kind,.int .u32 p.mine,.int .u32 p.boot,.int .u32 p.yours,.int .u32 p.seq,.int .u32 p.ack,.int .u32 p.stamp,.int .u32 p.echo,.complex .f64 p.zr p.zi,.slice Ab p.body.length cb] 27 (0,0)):=K3.out.pb
 have hts:=K3.out.drew hB
 refine start_ (n:=15) (S:=fun w' => w'.heap[w.heap.size]? = some (.cells #[.int .i64 p.kind,.int .u32 p.mine,.int .u32 p.boot,.int .u32 p.yours,.int .u32 p.seq,.int .u32 p.ack,.int .u32 p.stamp,.int .u32 p.echo,.complex .f64 p.zr p.zi,.slice Ab p.body.length cb] 27 (0,0))) (ds:=[]) M01 (by kernel_rfl) rfl rfl (hSS) (fun hHeld => ?_)
 generalize w_K3.drew = w_Y4 at hts hHeld ⊢
 have KY4:=Lib.hid hts
 clear hts hSS
 refine pure_ (i:=0) (N:=some 99) (v:=?_) (a':=?_) M02 rfl rfl (by kernel_rfl) (fun _ _ _ h => h) (Or.inl ⟨by rfl,?_⟩) ?_ ?_
 rotate_left
 ·intro w'
  go_simp
  with_reducible rfl
 rotate_left
 ·simp only [Act.put,sA,sZ,sS]
  rfl
 refine pure_ (i:=1) (N:=some 100) (v:=?_) (a':=?_) M03 rfl rfl (by kernel_rfl) (fun _ _ _ h => h) (Or.inl ⟨by rfl,?_⟩) ?_ ?_
 rotate_left
 ·intro w'
  go_simp
  with_reducible rfl
 rotate_left
 ·simp only [Act.put,sA,sZ,sS]
  rfl
 refine pure_ (i:=2) (N:=some 101) (v:=?_) (a':=?_) M04 rfl rfl (by kernel_rfl) (fun _ _ _ h => h) (Or.inl ⟨by rfl,?_⟩) ?_ ?_
 rotate_left
 ·intro w'
  go_simp
  with_reducible rfl
 rotate_left
 ·simp only [Act.put,sA,sZ,sS]
  rfl
 refine pure_ (i:=3) (N:=some 102) (v:=?_) (a':=?_) M05 rfl rfl (by kernel_rfl) (fun _ _ _ h => h) (Or.inl ⟨by rfl,?_⟩) ?_ ?_
 rotate_left
 ·intro w'
  go_simp
  with_reducible rfl
 rotate_left
 ·simp only [Act.put,sA,sZ,sS]
  rfl
 refine pure_ (i:=4) (N:=some 103) (v:=?_) (a':=?_) M06 rfl rfl (by kernel_rfl) (fun _ _ _ h => h) (Or.inl ⟨by rfl,?_⟩) ?_ ?_
 rotate_left
 ·intro w'
  go_simp
  with_reducible rfl
 rotate_left
 ·simp only [Act.put,sA,sZ,sS]
  rfl
 refine take_ (i:=5) (N:=some 104) (v:=?_) (a':=?_) M07 rfl rfl (by kernel_rfl) (fun _ _ _ h => h) (Or.inl ⟨by rfl,?_⟩) hHeld ?_ ?_
 rotate_left
 ·intro w' s0
  have hp1:w'.cell? ⟨w.heap.size,1,none⟩ = some (.int .u32 p.mine):=(blk_cell s0 1).trans rfl
  clear s0
  go_simp
  with_reducible rfl
 rotate_left
 ·simp only [Act.put,sA,sZ,sS]
  rfl
 refine pure_ (i:=6) (N:=some 105) (v:=?_) (a':=?_) M08 rfl rfl (by kernel_rfl) (fun _ _ _ h => h) (Or.inl ⟨by rfl,?_⟩) ?_ ?_
 rotate_left
 ·intro w'
  go_simp
  with_reducible rfl
 rotate_left
 ·simp only [Act.put,sA,sZ,sS]
  rfl
 refine pure_ (i:=7) (N:=some 106) (v:=?_) (a':=?_) M09 rfl rfl (by kernel_rfl) (fun _ _ _ h => h) (Or.inl ⟨by rfl,?_⟩) ?_ ?_
 rotate_left
 ·intro w'
  go_simp
  with_reducible rfl
 rotate_left
 ·simp only [Act.put,sA,sZ,sS]
  rfl
 refine one_ (i:=8) (N:=none) M0a rfl rfl (by kernel_rfl) (by decide) (fun K hK => ?_)
 have hz1:w_Y4.cell? ⟨g,3,none⟩ = some _:=(blk_cell KY4.out.at_.blk 3).trans rfl
 have hz2:=blk_frozen KY4.out.at_.blk 3
 refine skip_F (fun wz => TS w B S g #[.int .i64 p.kind,.int .u32 p.mine,.int .u32 p.boot,.int .u32 p.yours,.int .u32 p.seq,.int .u32 p.ack,.int .u32 p.stamp,.int .u32 p.echo,.complex .f64 p.zr p.zi,.slice Ab p.body.length cb] (fun _ => False) oko (fun _ => False) ({ begin_ L with boot:=boot }) (.slice none 0 0) o true false true (.slice none 0 0) [] wz) (by rfl) rfl ⟨_,by first | (go_simp; done) | (go_simp; rfl),TS.setL1 KY4.out hB 3 _ rfl rfl rfl⟩ (fun w_K5 hF => ?_)
 have K5:=Lib.hid hF
 clear hF hz1 hz2 hHeld
 refine hK.out _ _ K5.out.pb (fun hHeld => ?_)
 clear hK K
 refine pure_ (i:=9) (N:=some 107) (v:=?_) (a':=?_) M0b rfl rfl (by kernel_rfl) (fun _ _ _ h => h) (Or.inl ⟨by rfl,?_⟩) ?_ ?_
 rotate_left
 ·intro w'
  go_simp
  with_reducible rfl
 rotate_left
 ·simp only [Act.put,sA,sZ,sS]
  rfl
 refine pure_ (i:=10) (N:=some 108) (v:=?_) (a':=?_) M0c rfl rfl (by kernel_rfl) (fun _ _ _ h => h) (Or.inl ⟨by rfl,?_⟩) ?_ ?_
 rotate_left
 ·intro w'
  go_simp
  with_reducible rfl
 rotate_left
 ·simp only [Act.put,sA,sZ,sS]
  rfl
 refine one_ (i:=11) (N:=none) M0d rfl rfl (by kernel_rfl) (by decide) (fun K hK => ?_)
 have hz1:w_K5.cell? ⟨g,4,none⟩ = some _:=(blk_cell K5.out.at_.blk 4).trans rfl
 have hz2:=blk_frozen K5.out.at_.blk 4
 refine skip_F (fun wz => TS w B S g #[.int .i64 p.kind,.int .u32 p.mine,.int .u32 p.boot,.int .u32 p.yours,.int .u32 p.seq,.int .u32 p.ack,.int .u32 p.stamp,.int .u32 p.echo,.complex .f64 p.zr p.zi,.slice Ab p.body.length cb] (fun _ => False) oko (fun _ => False) ({ begin_ L with boot:=boot,yours:=p.mine }) (.slice none 0 0) o true false true (.slice none 0 0) [] wz) (by rfl) rfl ⟨_,by first | (go_simp; done) | (go_simp; rfl),TS.setL1 K5.out hB 4 _ rfl rfl rfl⟩ (fun w_K6 hF => ?_)
 have K6:=Lib.hid hF
 clear hF hz1 hz2 hHeld
 refine hK.out _ _ K6.out.pb (fun hHeld => ?_)
 clear hK K
 refine pure_ (i:=12) (N:=some 109) (v:=?_) (a':=?_) M00 rfl rfl (by kernel_rfl) (fun _ _ _ h => h) (Or.inl ⟨by rfl,?_⟩) ?_ ?_
 rotate_left
 ·intro w'
  go_simp
  with_reducible rfl
 rotate_left
 ·simp only [Act.put,sA,sZ,sS]
  rfl
 refine pure_ (i:=13) (N:=some 110) (v:=?_) (a':=?_) M0e rfl rfl (by kernel_rfl) (fun _ _ _ h => h) (Or.inl ⟨by rfl,?_⟩) ?_ ?_
 rotate_left
 ·intro w'
  go_simp
  with_reducible rfl
 rotate_left
 ·simp only [Act.put,sA,sZ,sS]
  rfl
 refine one_ (i:=14) (N:=none) M0f rfl rfl (by kernel_rfl) (by decide) (fun K hK => ?_)
 have hz1:w_K6.cell? ⟨g,5,none⟩ = some _:=(blk_cell K6.out.at_.blk 5).trans rfl
 have hz2:=blk_frozen K6.out.at_.blk 5
 refine skip_F (fun wz => TS w B S g #[.int .i64 p.kind,.int .u32 p.mine,.int .u32 p.boot,.int .u32 p.yours,.int .u32 p.seq,.int .u32 p.ack,.int .u32 p.stamp,.int .u32 p.echo,.complex .f64 p.zr p.zi,.slice Ab p.body.length cb] (fun _ => False) oko (fun _ => False) ({ begin_ L with boot:=boot,yours:=p.mine,known:=true }) (.slice none 0 0) o true false true (.slice none 0 0) [] wz) (by rfl) rfl ⟨_,by first | (go_simp; done) | (go_simp; rfl),TS.setL1 K6.out hB 5 _ rfl rfl rfl⟩ (fun w_K7 hF => ?_)
 have K7:=Lib.hid hF
 clear hF hz1 hz2 hHeld
 refine hK.out _ _ K7.out.pb (fun hHeld => ?_)
 clear hK K
 refine done_ (by kernel_rfl) ?_
 clear hHeld
 go_wp2_with (first | (go_at_call 73; (refine (hello_of K7.out.at_ (OKP.out) (Nat.le_trans hB K7.out.kept.1)).mono ?_); (rintro e w_K8 ⟨rfl,hE⟩); (obtain ⟨oko_K8,o_K8,hF⟩:=TS.emits K7.out hB hE); (clear hE); (have K8:=Lib.hid hF); (clear hF)))
 refine wp_goto ?_
 refine Jump.goto HC.out rfl ?_
 go_wp2_with (first | ((with_reducible refine gate_dst (N:=207) rfl ?_); (refine wpList_load_row rfl 56 (.tmp 6) rfl (w.heap.size + 1) (by rfl) 56 _ (0,0) _ (by first | exact K8.out.tb | exact (K8.out.drewN hB _).tb) Try.underlying56 rfl (by kernel_rfl) ?_)) | ((with_reducible refine gate_ (.store 56 (.tmp 6) (.tmp 207)) rfl ?_); (refine store_row_F rfl rfl 56 (.tmp 6) (.tmp 207) rfl (w.heap.size + 1) _ rfl rfl 56 _ (by first | exact K8.out.tb | exact (K8.out.drewN hB _).tb) (by kernel_rfl) rfl (by kernel_rfl) ?_); (intro w_K9 hb9 hat9); (have hF:=TS.setT (by first | exact K8.out | exact K8.out.drewN hB _ | exact K8.out.drew hB) hB hat9 hb9 (by first | exact K8.out.brow | exact (K8.out.drewN hB _).brow) (by first | exact K8.out.okb | exact (K8.out.drewN hB _).okb)); (have K9:=Lib.hid hF); (clear hF hb9 hat9)))
 refine Jump.ret ?_
 refine bodyPost_ret ?_ rfl (K9.out.ends)
 exact results_cell2 Try.results34 _ _ rfl rfl (run_loadVar_row (P:=Try.prog) _ (w.heap.size + 1) 56 56 _ (0,0) _ K9.out.tb Try.underlying56 rfl (by kernel_rfl))
set_option maxRecDepth 100000 in
set_option maxHeartbeats 4000000 in
theorem take_no1 {w:World} {B g:Nat} {okq oko S:Nat → Prop} {L:Lk} {q o:Value} (h:At w B okq oko g L q o) (hok:L.Ok) (hS:∀ k,holds okq oko g k → S k) (hB:B ≤ w.heap.size) (boot:Int) (p:Pkt) (Ab:Option Addr) (cb:Nat)
  (hb0:boot ≠ 0) (hbr:0 ≤ boot ∧ boot < 4294967296) (hpr:p.Rng) (hck:checkP p.kind p.mine p.boot p.yours p.seq p.ack p.stamp p.echo p.zr p.zi p.body.length = 0)  (hph:L.phase = 1) (hag:0 ≤ ageF L boot p.mine) (hkn:p.kind ≠ 1) :
  Calls Try.prog 34 #[.pointer (some ⟨g,0,none⟩),.int .u32 boot,.agg #[.int .i64 p.kind,.int .u32 p.mine,.int .u32 p.boot,.int .u32 p.yours,.int .u32 p.seq,.int .u32 p.ack,.int .u32 p.stamp,.int .u32 p.echo,.complex .f64 p.zr p.zi,.slice Ab p.body.length cb]] w fun e w' => Took w B S g (L) false false false [] e w':=by
 have HG0:=Lib.hid (show (((w.alloc (.cells #[.int .i64 p.kind,.int .u32 p.mine,.int .u32 p.boot,.int .u32 p.yours,.int .u32 p.seq,.int .u32 p.ack,.int .u32 p.stamp,.int .u32 p.echo,.complex .f64 p.zr p.zi,.slice Ab p.body.length cb] 27)).alloc (.cells #[.bool false,.bool false,.bool false,.slice none 0 0] 56))).heap[w.heap.size]? = some (.cells #[.int .i64 p.kind,.int .u32 p.mine,.int .u32 p.boot,.int .u32 p.yours,.int .u32 p.seq,.int .u32 p.ack,.int .u32 p.stamp,.int .u32 p.echo,.complex .f64 p.zr p.zi,.slice Ab p.body.length cb] 27 (0,0)) from (Below.heap_alloc _ _ _ (by simp)).trans (heap_alloc_new w _))
 have H:=Lib.hid h
 have OK:=Lib.hid hok
 have HS:=Lib.hid hS
 have HPR:=Lib.hid hpr
 have HCK:=Lib.hid hck
 have hbz:(boot == 0) = false:=by simp [hb0]
 have HPH:=Lib.hid hph
 clear hph
 have hd2:decide (ageF L boot p.mine < 0) = false:=by simp; omega
 clear hag hbr
 have hd4:(p.kind == 1) = false:=by simp [hkn]
 clear hkn
 clear h hok hS hpr hck hb0
 go_enter Try.func34,Try.ntmps34
 go_wp2_with fail
 refine wp_scope_hid 3 (fun C HC => ?_)
 go_wp2_with (first | ((with_reducible refine gate_dst (N:=17) rfl ?_); (refine wpList_load_row rfl 27 (.tmp 5) rfl w.heap.size (by rfl) 27 #[.int .i64 p.kind,.int .u32 p.mine,.int .u32 p.boot,.int .u32 p.yours,.int .u32 p.seq,.int .u32 p.ack,.int .u32 p.stamp,.int .u32 p.echo,.complex .f64 p.zr p.zi,.slice Ab p.body.length cb] (0,0) _ HG0.out Try.underlying27 rfl (by kernel_rfl) ?_)) | (go_at_call 20; (refine (check_any _ _ _ _ _ _ _ _ _ _ _ _ _ _ HPR.out.zr HPR.out.zi).mono ?_); (rintro e w_K0 ⟨rfl,hb⟩); (rw [HCK.out]); (have K0:=Lib.hid (TS.start (pc:=#[.int .i64 p.kind,.int .u32 p.mine,.int .u32 p.boot,.int .u32 p.yours,.int .u32 p.seq,.int .u32 p.ack,.int .u32 p.stamp,.int .u32 p.echo,.complex .f64 p.zr p.zi,.slice Ab p.body.length cb]) H.out HS.out hB (hb.mono (by simp)))); (clear hb); (have hl1:w_K0.cell? ⟨g,1,none⟩ = some (.int .i64 1):=(blk_cell K0.out.at_.blk 1).trans (congrArg (fun x => some (Value.int .i64 x)) HPH.out)); (have hp0:w_K0.cell? ⟨w.heap.size,0,none⟩ = some (.int .i64 p.kind):=(blk_cell K0.out.pb 0).trans rfl); (have hp1:w_K0.cell? ⟨w.heap.size,1,none⟩ = some (.int .u32 p.mine):=(blk_cell K0.out.pb 1).trans rfl)) | (go_at_call 76; (refine (age_of K0.out.at_ boot p.mine).mono ?_); (rintro e w1 ⟨rfl,rfl⟩); (skip)))
 refine wp_goto ?_
 refine Jump.goto HC.out rfl ?_
 go_wp2_with (first | ((with_reducible refine gate_dst (N:=207) rfl ?_); (refine wpList_load_row rfl 56 (.tmp 6) rfl (w.heap.size + 1) (by rfl) 56 _ (0,0) _ (by first | exact K0.out.tb | exact (K0.out.drewN hB _).tb) Try.underlying56 rfl (by kernel_rfl) ?_)) | ((with_reducible refine gate_ (.store 56 (.tmp 6) (.tmp 207)) rfl ?_); (refine store_row_F rfl rfl 56 (.tmp 6) (.tmp 207) rfl (w.heap.size + 1) _ rfl rfl 56 _ (by first | exact K0.out.tb | exact (K0.out.drewN hB _).tb) (by kernel_rfl) rfl (by kernel_rfl) ?_); (intro w_K1 hb9 hat9); (have hF:=TS.setT (by first | exact K0.out | exact K0.out.drewN hB _ | exact K0.out.drew hB) hB hat9 hb9 (by first | exact K0.out.brow | exact (K0.out.drewN hB _).brow) (by first | exact K0.out.okb | exact (K0.out.drewN hB _).okb)); (have K1:=Lib.hid hF); (clear hF hb9 hat9)))
 refine Jump.ret ?_
 refine bodyPost_ret ?_ rfl (K1.out.ends)
 exact results_cell2 Try.results34 _ _ rfl rfl (run_loadVar_row (P:=Try.prog) _ (w.heap.size + 1) 56 56 _ (0,0) _ K1.out.tb Try.underlying56 rfl (by kernel_rfl))
set_option maxRecDepth 100000 in
set_option maxHeartbeats 4000000 in
theorem take_no2 {w:World} {B g:Nat} {okq oko S:Nat → Prop} {L:Lk} {q o:Value} (h:At w B okq oko g L q o) (hok:L.Ok) (hS:∀ k,holds okq oko g k → S k) (hB:B ≤ w.heap.size) (boot:Int) (p:Pkt) (Ab:Option Addr) (cb:Nat)
  (hb0:boot ≠ 0) (hbr:0 ≤ boot ∧ boot < 4294967296) (hpr:p.Rng) (hck:checkP p.kind p.mine p.boot p.yours p.seq p.ack p.stamp p.echo p.zr p.zi p.body.length = 0)  (hph:L.phase = 2) (hag:ageF L boot p.mine = 1) (hkn:p.kind ≠ 1) :
  Calls Try.prog 34 #[.pointer (some ⟨g,0,none⟩),.int .u32 boot,.agg #[.int .i64 p.kind,.int .u32 p.mine,.int .u32 p.boot,.int .u32 p.yours,.int .u32 p.seq,.int .u32 p.ack,.int .u32 p.stamp,.int .u32 p.echo,.complex .f64 p.zr p.zi,.slice Ab p.body.length cb]] w fun e w' => Took w B S g (L) false false false [] e w':=by
 have HG0:=Lib.hid (show (((w.alloc (.cells #[.int .i64 p.kind,.int .u32 p.mine,.int .u32 p.boot,.int .u32 p.yours,.int .u32 p.seq,.int .u32 p.ack,.int .u32 p.stamp,.int .u32 p.echo,.complex .f64 p.zr p.zi,.slice Ab p.body.length cb] 27)).alloc (.cells #[.bool false,.bool false,.bool false,.slice none 0 0] 56))).heap[w.heap.size]? = some (.cells #[.int .i64 p.kind,.int .u32 p.mine,.int .u32 p.boot,.int .u32 p.yours,.int .u32 p.seq,.int .u32 p.ack,.int .u32 p.stamp,.int .u32 p.echo,.complex .f64 p.zr p.zi,.slice Ab p.body.length cb] 27 (0,0)) from (Below.heap_alloc _ _ _ (by simp)).trans (heap_alloc_new w _))
 have H:=Lib.hid h
 have OK:=Lib.hid hok
 have HS:=Lib.hid hS
 have HPR:=Lib.hid hpr
 have HCK:=Lib.hid hck
 have hbz:(boot == 0) = false:=by simp [hb0]
 have HPH:=Lib.hid hph
 clear hph
 have HAG:=Lib.hid hag
 clear hag
 clear hbr
 have hd4:(p.kind == 1) = false:=by simp [hkn]
 clear hkn
 clear h hok hS hpr hck hb0
 go_enter Try.func34,Try.ntmps34
 go_wp2_with fail
 refine wp_scope_hid 3 (fun C HC => ?_)
 go_wp2_with (first | ((with_reducible refine gate_dst (N:=17) rfl ?_); (refine wpList_load_row rfl 27 (.tmp 5) rfl w.heap.size (by rfl) 27 #[.int .i64 p.kind,.int .u32 p.mine,.int .u32 p.boot,.int .u32 p.yours,.int .u32 p.seq,.int .u32 p.ack,.int .u32 p.stamp,.int .u32 p.echo,.complex .f64 p.zr p.zi,.slice Ab p.body.length cb] (0,0) _ HG0.out Try.underlying27 rfl (by kernel_rfl) ?_)) | (go_at_call 20; (refine (check_any _ _ _ _ _ _ _ _ _ _ _ _ _ _ HPR.out.zr HPR.out.zi).mono ?_); (rintro e w_K0 ⟨rfl,hb⟩); (rw [HCK.out]); (have K0:=Lib.hid (TS.start (pc:=#[.int .i64 p.kind,.int .u32 p.mine,.int .u32 p.boot,.int .u32 p.yours,.int .u32 p.seq,.int .u32 p.ack,.int .u32 p.stamp,.int .u32 p.echo,.complex .f64 p.zr p.zi,.slice Ab p.body.length cb]) H.out HS.out hB (hb.mono (by simp)))); (clear hb); (have hl1:w_K0.cell? ⟨g,1,none⟩ = some (.int .i64 2):=(blk_cell K0.out.at_.blk 1).trans (congrArg (fun x => some (Value.int .i64 x)) HPH.out)); (have hp0:w_K0.cell? ⟨w.heap.size,0,none⟩ = some (.int .i64 p.kind):=(blk_cell K0.out.pb 0).trans rfl); (have hp1:w_K0.cell? ⟨w.heap.size,1,none⟩ = some (.int .u32 p.mine):=(blk_cell K0.out.pb 1).trans rfl)) | (go_at_call 76; (refine (age_of K0.out.at_ boot p.mine).mono ?_); (rintro e w1 ⟨rfl,rfl⟩); (rw [HAG.out])))
 refine wp_goto ?_
 refine Jump.goto HC.out rfl ?_
 go_wp2_with (first | ((with_reducible refine gate_dst (N:=207) rfl ?_); (refine wpList_load_row rfl 56 (.tmp 6) rfl (w.heap.size + 1) (by rfl) 56 _ (0,0) _ (by first | exact K0.out.tb | exact (K0.out.drewN hB _).tb) Try.underlying56 rfl (by kernel_rfl) ?_)) | ((with_reducible refine gate_ (.store 56 (.tmp 6) (.tmp 207)) rfl ?_); (refine store_row_F rfl rfl 56 (.tmp 6) (.tmp 207) rfl (w.heap.size + 1) _ rfl rfl 56 _ (by first | exact K0.out.tb | exact (K0.out.drewN hB _).tb) (by kernel_rfl) rfl (by kernel_rfl) ?_); (intro w_K1 hb9 hat9); (have hF:=TS.setT (by first | exact K0.out | exact K0.out.drewN hB _ | exact K0.out.drew hB) hB hat9 hb9 (by first | exact K0.out.brow | exact (K0.out.drewN hB _).brow) (by first | exact K0.out.okb | exact (K0.out.drewN hB _).okb)); (have K1:=Lib.hid hF); (clear hF hb9 hat9)))
 refine Jump.ret ?_
 refine bodyPost_ret ?_ rfl (K1.out.ends)
 exact results_cell2 Try.results34 _ _ rfl rfl (run_loadVar_row (P:=Try.prog) _ (w.heap.size + 1) 56 56 _ (0,0) _ K1.out.tb Try.underlying56 rfl (by kernel_rfl))
set_option maxRecDepth 100000 in
set_option maxHeartbeats 4000000 in
theorem take_no3 {w:World} {B g:Nat} {okq oko S:Nat → Prop} {L:Lk} {q o:Value} (h:At w B okq oko g L q o) (hok:L.Ok) (hS:∀ k,holds okq oko g k → S k) (hB:B ≤ w.heap.size) (boot:Int) (p:Pkt) (Ab:Option Addr) (cb:Nat)
  (hb0:boot ≠ 0) (hbr:0 ≤ boot ∧ boot < 4294967296) (hpr:p.Rng) (hck:checkP p.kind p.mine p.boot p.yours p.seq p.ack p.stamp p.echo p.zr p.zi p.body.length = 0)  (hph:L.phase = 2) (hag:ageF L boot p.mine = 0) (hkn:p.kind ≠ 1) (hmn:meantF L p = false) :
  Calls Try.prog 34 #[.pointer (some ⟨g,0,none⟩),.int .u32 boot,.agg #[.int .i64 p.kind,.int .u32 p.mine,.int .u32 p.boot,.int .u32 p.yours,.int .u32 p.seq,.int .u32 p.ack,.int .u32 p.stamp,.int .u32 p.echo,.complex .f64 p.zr p.zi,.slice Ab p.body.length cb]] w fun e w' => Took w B S g (L) false false false [] e w':=by
 have HG0:=Lib.hid (show (((w.alloc (.cells #[.int .i64 p.kind,.int .u32 p.mine,.int .u32 p.boot,.int .u32 p.yours,.int .u32 p.seq,.int .u32 p.ack,.int .u32 p.stamp,.int .u32 p.echo,.complex .f64 p.zr p.zi,.slice Ab p.body.length cb] 27)).alloc (.cells #[.bool false,.bool false,.bool false,.slice none 0 0] 56))).heap[w.heap.size]? = some (.cells #[.int .i64 p.kind,.int .u32 p.mine,.int .u32 p.boot,.int .u32 p.yours,.int .u32 p.seq,.int .u32 p.ack,.int .u32 p.stamp,.int .u32 p.echo,.complex .f64 p.zr p.zi,.slice Ab p.body.length cb] 27 (0,0)) from (Below.heap_alloc _ _ _ (by simp)).trans (heap_alloc_new w _))
 have H:=Lib.hid h
 have OK:=Lib.hid hok
 have HS:=Lib.hid hS
 have HPR:=Lib.hid hpr
 have HCK:=Lib.hid hck
 have hbz:(boot == 0) = false:=by simp [hb0]
 have HPH:=Lib.hid hph
 clear hph
 have HAG:=Lib.hid hag
 clear hag
 clear hbr
 have HMN:=Lib.hid hmn
 clear hmn
 have hd4:(p.kind == 1) = false:=by simp [hkn]
 clear hkn
 clear h hok hS hpr hck hb0
 go_enter Try.func34,Try.ntmps34
 go_wp2_with fail
 refine wp_scope_hid 3 (fun C HC => ?_)
 go_wp2_with (first | ((with_reducible refine gate_dst (N:=17) rfl ?_); (refine wpList_load_row rfl 27 (.tmp 5) rfl w.heap.size (by rfl) 27 #[.int .i64 p.kind,.int .u32 p.mine,.int .u32 p.boot,.int .u32 p.yours,.int .u32 p.seq,.int .u32 p.ack,.int .u32 p.stamp,.int .u32 p.echo,.complex .f64 p.zr p.zi,.slice Ab p.body.length cb] (0,0) _ HG0.out Try.underlying27 rfl (by kernel_rfl) ?_)) | (go_at_call 20; (refine (check_any _ _ _ _ _ _ _ _ _ _ _ _ _ _ HPR.out.zr HPR.out.zi).mono ?_); (rintro e w_K0 ⟨rfl,hb⟩); (rw [HCK.out]); (have K0:=Lib.hid (TS.start (pc:=#[.int .i64 p.kind,.int .u32 p.mine,.int .u32 p.boot,.int .u32 p.yours,.int .u32 p.seq,.int .u32 p.ack,.int .u32 p.stamp,.int .u32 p.echo,.complex .f64 p.zr p.zi,.slice Ab p.body.length cb]) H.out HS.out hB (hb.mono (by simp)))); (clear hb); (have hl1:w_K0.cell? ⟨g,1,none⟩ = some (.int .i64 2):=(blk_cell K0.out.at_.blk 1).trans (congrArg (fun x => some (Value.int .i64 x)) HPH.out)); (have hp0:w_K0.cell? ⟨w.heap.size,0,none⟩ = some (.int .i64 p.kind):=(blk_cell K0.out.pb 0).trans rfl); (have hp1:w_K0.cell? ⟨w.heap.size,1,none⟩ = some (.int .u32 p.mine):=(blk_cell K0.out.pb 1).trans rfl)) | (go_at_call 76; (refine (age_of K0.out.at_ boot p.mine).mono ?_); (rintro e w1 ⟨rfl,rfl⟩); (rw [HAG.out])) | ((with_reducible refine gate_dst (N:=59) rfl ?_); (refine gate_guard (by rfl) ?_); (refine wpList_load_row rfl 27 (.tmp 5) rfl w.heap.size (by rfl) 27 _ (0,0) _ (by first | exact K0.out.pb | exact (K0.out.drewN hB _).pb) Try.underlying27 rfl (by kernel_rfl) ?_)) | (go_at_call 77; (refine (meant_of K0.out.at_ p (.slice Ab p.body.length cb)).mono ?_); (rintro e w_K1 ⟨rfl,hb⟩); (have hme:meantF (L) p = false:=HMN.out); (rw [hme]); (clear hme); (have K1:=Lib.hid (K0.out.sub hB hb)); (clear hb); (clear hl1 hp0 hp1)))
 refine wp_goto ?_
 refine Jump.goto HC.out rfl ?_
 go_wp2_with (first | ((with_reducible refine gate_dst (N:=207) rfl ?_); (refine wpList_load_row rfl 56 (.tmp 6) rfl (w.heap.size + 1) (by rfl) 56 _ (0,0) _ (by first | exact K1.out.tb | exact (K1.out.drewN hB _).tb) Try.underlying56 rfl (by kernel_rfl) ?_)) | ((with_reducible refine gate_ (.store 56 (.tmp 6) (.tmp 207)) rfl ?_); (refine store_row_F rfl rfl 56 (.tmp 6) (.tmp 207) rfl (w.heap.size + 1) _ rfl rfl 56 _ (by first | exact K1.out.tb | exact (K1.out.drewN hB _).tb) (by kernel_rfl) rfl (by kernel_rfl) ?_); (intro w_K2 hb9 hat9); (have hF:=TS.setT (by first | exact K1.out | exact K1.out.drewN hB _ | exact K1.out.drew hB) hB hat9 hb9 (by first | exact K1.out.brow | exact (K1.out.drewN hB _).brow) (by first | exact K1.out.okb | exact (K1.out.drewN hB _).okb)); (have K2:=Lib.hid hF); (clear hF hb9 hat9)))
 refine Jump.ret ?_
 refine bodyPost_ret ?_ rfl (K2.out.ends)
 exact results_cell2 Try.results34 _ _ rfl rfl (run_loadVar_row (P:=Try.prog) _ (w.heap.size + 1) 56 56 _ (0,0) _ K2.out.tb Try.underlying56 rfl (by kernel_rfl))
end Go.Proofs.Ytnkkgofpifhoeaa.Lk
end
section
namespace Go.Proofs.Ytnkkgofpifhoeaa.Lk
open Go.RowKit Go.Proofs.Ytnkkgofpifhoeaa.Base Go.Proofs.Ytnkkgofpifhoeaa.Steps Go.Proofs.Ytnkkgofpifhoeaa.Pk Go.Proofs.Ytnkkgofpifhoeaa.Jmp Go.Proofs.YtnkkgofpifhoeaaW.PrintWords Go.Proofs.YtnkkgofpifhoeaaW.PrintLast
set_option maxRecDepth 100000 in
set_option maxHeartbeats 4000000 in
theorem take_up00a {w:World} {B g:Nat} {okq oko S:Nat → Prop} {L:Lk} {q o:Value} (h:At w B okq oko g L q o) (hok:L.Ok) (hS:∀ k,holds okq oko g k → S k) (hB:B ≤ w.heap.size) (boot:Int) (p:Pkt) (Ab:Option Addr) (cb:Nat)
  (hb0:boot ≠ 0) (hbr:0 ≤ boot ∧ boot < 4294967296) (hpr:p.Rng) (hck:checkP p.kind p.mine p.boot p.yours p.seq p.ack p.stamp p.echo p.zr p.zi p.body.length = 0)  (hph:L.phase = 2) (hag:ageF L boot p.mine = 0) (hmn:meantF L p = true) (hpl:p.body.length ≤ 1000) {okp:Nat → Prop} (hR:(Kd.int .u8).R 5 w B okp (.slice Ab p.body.length cb) p.body) (hkp:∀ k,okp k → ¬ S k) (kn:Nat) (hkk:IntKind.u32.wrap (p.ack - L.base) = kn) (hkn:p.kind ≠ 1) (hkm:p.kind ≠ 2) (h1k:1 ≤ kn) (hks:(kn:Int) ≤ L.sent) :
  Calls Try.prog 34 #[.pointer (some ⟨g,0,none⟩),.int .u32 boot,.agg #[.int .i64 p.kind,.int .u32 p.mine,.int .u32 p.boot,.int .u32 p.yours,.int .u32 p.seq,.int .u32 p.ack,.int .u32 p.stamp,.int .u32 p.echo,.complex .f64 p.zr p.zi,.slice Ab p.body.length cb]] w fun e w' => Took w B S g (fill_ (cutL (L) kn)) true false false [] e w':=by
 have HG0:=Lib.hid (show (((w.alloc (.cells #[.int .i64 p.kind,.int .u32 p.mine,.int .u32 p.boot,.int .u32 p.yours,.int .u32 p.seq,.int .u32 p.ack,.int .u32 p.stamp,.int .u32 p.echo,.complex .f64 p.zr p.zi,.slice Ab p.body.length cb] 27)).alloc (.cells #[.bool false,.bool false,.bool false,.slice none 0 0] 56))).heap[w.heap.size]? = some (.cells #[.int .i64 p.kind,.int .u32 p.mine,.int .u32 p.boot,.int .u32 p.yours,.int .u32 p.seq,.int .u32 p.ack,.int .u32 p.stamp,.int .u32 p.echo,.complex .f64 p.zr p.zi,.slice Ab p.body.length cb] 27 (0,0)) from (Below.heap_alloc _ _ _ (by simp)).trans (heap_alloc_new w _))
 have H:=Lib.hid h
 have OK:=Lib.hid hok
 have HS:=Lib.hid hS
 have HPR:=Lib.hid hpr
 have HCK:=Lib.hid hck
 have hbz:(boot == 0) = false:=by simp [hb0]
 have HPH:=Lib.hid hph
 clear hph
 have HAG:=Lib.hid hag
 clear hag
 clear hbr
 have HMN:=Lib.hid hmn
 clear hmn
 have HRP:=Lib.hid hR
 have HKP:=Lib.hid hkp
 have HPL:=Lib.hid hpl
 clear hR hkp hpl
 have HKK:=Lib.hid hkk
 clear hkk
 have hlb:=OK.out.sent
 have hqb:=OK.out.queue
 have hd4:(p.kind == 1) = false:=by simp [hkn]
 have hd5:(p.kind == 2) = false:=by simp [hkm]
 clear hkn hkm
 have hd7:decide ((kn:Int) ≥ 1) = true:=by simp; omega
 have hd8:decide ((kn:Int) ≤ L.sent) = true:=by simp; omega
 have hw8:IntKind.u32.wrap L.sent = L.sent:=by rw [wrapU]; omega
 clear h1k
 have HKS:=Lib.hid hks
 clear hks
 obtain ⟨A6,c6,hq6,hl6⟩:=Kd.Q_slice h.queue
 subst hq6
 have HKQ:=Lib.hid (show kn ≤ L.queue.length by have:=HKS.out; omega)
 have hsl:=slice45 A6 L.queue.length c6 kn HKQ.out hl6
 obtain ⟨A7,hA7⟩:∃ A,A = (if c6 = kn then A6 else A6.map (·.add (kn * bytes.sz))):=⟨_,rfl⟩
 rw [← hA7] at hsl
 have HA7:=Lib.hid hA7
 clear hA7
 clear hl6
 have hkq:=HKQ.out
 generalize hqn:L.queue.length = qn at H hsl hkq hlb hqb
 have HQN:=Lib.hid hqn
 clear hqn
 have hc4:kn < 4294967296:=by omega
 clear h hok hS hpr hck hb0
 go_enter Try.func34,Try.ntmps34
 go_wp2_with fail
 refine wp_scope_hid 3 (fun C HC => ?_)
 go_wp2_with (first | ((with_reducible refine gate_dst (N:=17) rfl ?_); (refine wpList_load_row rfl 27 (.tmp 5) rfl w.heap.size (by rfl) 27 #[.int .i64 p.kind,.int .u32 p.mine,.int .u32 p.boot,.int .u32 p.yours,.int .u32 p.seq,.int .u32 p.ack,.int .u32 p.stamp,.int .u32 p.echo,.complex .f64 p.zr p.zi,.slice Ab p.body.length cb] (0,0) _ HG0.out Try.underlying27 rfl (by kernel_rfl) ?_)) | (go_at_call 20; (refine (check_any _ _ _ _ _ _ _ _ _ _ _ _ _ _ HPR.out.zr HPR.out.zi).mono ?_); (rintro e w_K0 ⟨rfl,hb⟩); (rw [HCK.out]); (have K0:=Lib.hid (TS.start (pc:=#[.int .i64 p.kind,.int .u32 p.mine,.int .u32 p.boot,.int .u32 p.yours,.int .u32 p.seq,.int .u32 p.ack,.int .u32 p.stamp,.int .u32 p.echo,.complex .f64 p.zr p.zi,.slice Ab p.body.length cb]) H.out HS.out hB (hb.mono (by simp)))); (clear hb); (have hl1:w_K0.cell? ⟨g,1,none⟩ = some (.int .i64 2):=(blk_cell K0.out.at_.blk 1).trans (congrArg (fun x => some (Value.int .i64 x)) HPH.out)); (have hp0:w_K0.cell? ⟨w.heap.size,0,none⟩ = some (.int .i64 p.kind):=(blk_cell K0.out.pb 0).trans rfl); (have hp1:w_K0.cell? ⟨w.heap.size,1,none⟩ = some (.int .u32 p.mine):=(blk_cell K0.out.pb 1).trans rfl)) | (go_at_call 76; (refine (age_of K0.out.at_ boot p.mine).mono ?_); (rintro e w1 ⟨rfl,rfl⟩); (rw [HAG.out])) | ((with_reducible refine gate_dst (N:=59) rfl ?_); (refine gate_guard (by rfl) ?_); (refine wpList_load_row rfl 27 (.tmp 5) rfl w.heap.size (by rfl) 27 _ (0,0) _ (by first | exact K0.out.pb | exact (K0.out.drewN hB _).pb) Try.underlying27 rfl (by kernel_rfl) ?_)) | (go_at_call 77; (refine (meant_of K0.out.at_ p (.slice Ab p.body.length cb)).mono ?_); (rintro e w_K1 ⟨rfl,hb⟩); (have hme:meantF (L) p = true:=HMN.out); (rw [hme]); (clear hme); (have K1:=Lib.hid (K0.out.sub hB hb)); (clear hb); (clear hl1 hp0 hp1)) | ((with_reducible refine gate_ (.store 4 (.tmp 62) (.const (.bool true))) rfl ?_); (refine store_F (fun wz => TS w B S g #[.int .i64 p.kind,.int .u32 p.mine,.int .u32 p.boot,.int .u32 p.yours,.int .u32 p.seq,.int .u32 p.ack,.int .u32 p.stamp,.int .u32 p.echo,.complex .f64 p.zr p.zi,.slice Ab p.body.length cb] okq oko (fun _ => False) (L) (.slice A6 qn c6) o true false false (.slice none 0 0) [] wz) rfl rfl ⟨_,(by have hz1:World.cell? w_K1 ⟨w.heap.size + 1,0,none⟩ = some _:=(blk_cell K1.out.tb 0).trans rfl; have hz2:=blk_frozen K1.out.tb 0; first | (go_simp; done) | (go_simp; rfl)),TS.setT1 K1.out hB 0 _ rfl⟩ (fun w_K2 hF => ?_)); (have K2:=Lib.hid hF); (clear hF); (have hl9:w_K2.cell? ⟨g,9,none⟩ = some (.int .u32 L.expected):=(blk_cell K2.out.at_.blk 9).trans rfl); (have hp0:w_K2.cell? ⟨w.heap.size,0,none⟩ = some (.int .i64 p.kind):=(blk_cell K2.out.pb 0).trans rfl); (have hp4:w_K2.cell? ⟨w.heap.size,4,none⟩ = some (.int .u32 p.seq):=(blk_cell K2.out.pb 4).trans rfl)))
 refine wp_goto ?_
 refine Jump.goto HC.out rfl ?_
 go_wp2_with fail
 go_quiet (fail)
 rename Nat => nqq1
 clear hl9 hp0 hp4
 have hl8:w_K2.cell? ⟨g,8,none⟩ = some (.int .u32 L.base):=(blk_cell K2.out.at_.blk 8).trans rfl
 have hl6:w_K2.cell? ⟨g,6,none⟩ = some ((.slice A6 qn c6)):=(blk_cell K2.out.at_.blk 6).trans rfl
 have hl7:w_K2.cell? ⟨g,7,none⟩ = some (.int .i64 L.sent):=(blk_cell K2.out.at_.blk 7).trans rfl
 have hp5:w_K2.cell? ⟨w.heap.size,5,none⟩ = some (.int .u32 p.ack):=(blk_cell K2.out.pb 5).trans rfl
 have hp0:w_K2.cell? ⟨w.heap.size,0,none⟩ = some (.int .i64 p.kind):=(blk_cell K2.out.pb 0).trans rfl
 go_wp2_with fail
 go_quiet ((go_at_call 79; refine (ahead_of _ _ _).mono fun _ _ hq => ⟨hq.1.trans (congrArg (fun x => Ending.returned (.int .u32 x)) HKK.out),_,hq.2.symm⟩))
 rename Nat => nqq2
 go_wp2_with (first | ((with_reducible refine gate_ (.store 45 (.tmp 162) (.tmp 160)) rfl ?_); (refine store_F (fun wz => TS w B S g #[.int .i64 p.kind,.int .u32 p.mine,.int .u32 p.boot,.int .u32 p.yours,.int .u32 p.seq,.int .u32 p.ack,.int .u32 p.stamp,.int .u32 p.echo,.complex .f64 p.zr p.zi,.slice Ab p.body.length cb] okq oko (fun _ => False) ({ L with queue:=(L).queue.drop kn }) (.slice A7 (qn - kn) (c6 - kn)) o true false false (.slice none 0 0) [] wz) rfl rfl ⟨_,(by have hz1:World.cell? w_K2 ⟨g,6,none⟩ = some _:=(blk_cell K2.out.at_.blk 6).trans rfl; have hz2:=blk_frozen K2.out.at_.blk 6; first | (go_simp; done) | (go_simp; rfl)),TS.cut (K2.out.drewN hB (nqq1 + nqq2)) hB rfl HKQ.out HA7.out⟩ (fun w_K3 hF => ?_)); (have K3:=Lib.hid hF); (clear hF); (clear hl8 hl6 hl7 hp5 hp0); (have hl8:w_K3.cell? ⟨g,8,none⟩ = some (.int .u32 L.base):=(blk_cell K3.out.at_.blk 8).trans rfl); (have hl7:w_K3.cell? ⟨g,7,none⟩ = some (.int .i64 L.sent):=(blk_cell K3.out.at_.blk 7).trans rfl); (have hp0:w_K3.cell? ⟨w.heap.size,0,none⟩ = some (.int .i64 p.kind):=(blk_cell K3.out.pb 0).trans rfl)) | ((with_reducible refine gate_ (.store 24 (.tmp 170) (.tmp 168)) rfl ?_); (have hT:TS w B S g #[.int .i64 p.kind,.int .u32 p.mine,.int .u32 p.boot,.int .u32 p.yours,.int .u32 p.seq,.int .u32 p.ack,.int .u32 p.stamp,.int .u32 p.echo,.complex .f64 p.zr p.zi,.slice Ab p.body.length cb] okq oko (fun _ => False) ({ L with queue:=(L).queue.drop kn,base:=IntKind.u32.wrap (L.base + kn) }) (.slice A7 (qn - kn) (c6 - kn)) o true false false (.slice none 0 0) [] (World.setCell w_K3 ⟨g,8,none⟩ (.int .u32 (IntKind.u32.wrap (L.base + kn)))):=TS.setL1 K3.out hB 8 (.int .u32 (IntKind.u32.wrap (L.base + kn))) rfl rfl rfl); (refine store_F (fun wz => TS w B S g #[.int .i64 p.kind,.int .u32 p.mine,.int .u32 p.boot,.int .u32 p.yours,.int .u32 p.seq,.int .u32 p.ack,.int .u32 p.stamp,.int .u32 p.echo,.complex .f64 p.zr p.zi,.slice Ab p.body.length cb] okq oko (fun _ => False) ({ L with queue:=(L).queue.drop kn,base:=IntKind.u32.wrap (L.base + kn) }) (.slice A7 (qn - kn) (c6 - kn)) o true false false (.slice none 0 0) [] wz) rfl rfl ⟨_,(by have hz1:World.cell? w_K3 ⟨g,8,none⟩ = some _:=(blk_cell K3.out.at_.blk 8).trans rfl; have hz2:=blk_frozen K3.out.at_.blk 8; first | (go_simp; done) | (go_simp; rfl)),hT⟩ (fun w_K4 hF => ?_)); (have K4:=Lib.hid hF); (clear hF hT); (clear hl8 hl7 hp0); (have hl7:w_K4.cell? ⟨g,7,none⟩ = some (.int .i64 L.sent):=(blk_cell K4.out.at_.blk 7).trans rfl); (have hp0:w_K4.cell? ⟨w.heap.size,0,none⟩ = some (.int .i64 p.kind):=(blk_cell K4.out.pb 0).trans rfl)) | ((with_reducible refine gate_ (.store 3 (.tmp 179) (.tmp 177)) rfl ?_); (have hT:TS w B S g #[.int .i64 p.kind,.int .u32 p.mine,.int .u32 p.boot,.int .u32 p.yours,.int .u32 p.seq,.int .u32 p.ack,.int .u32 p.stamp,.int .u32 p.echo,.complex .f64 p.zr p.zi,.slice Ab p.body.length cb] okq oko (fun _ => False) ({ L with queue:=(L).queue.drop kn,base:=IntKind.u32.wrap (L.base + kn),sent:=L.sent - kn }) (.slice A7 (qn - kn) (c6 - kn)) o true false false (.slice none 0 0) [] (World.setCell w_K4 ⟨g,7,none⟩ (.int .i64 (L.sent - kn))):=TS.setL1 K4.out hB 7 (.int .i64 (L.sent - kn)) rfl rfl rfl); (refine store_F (fun wz => TS w B S g #[.int .i64 p.kind,.int .u32 p.mine,.int .u32 p.boot,.int .u32 p.yours,.int .u32 p.seq,.int .u32 p.ack,.int .u32 p.stamp,.int .u32 p.echo,.complex .f64 p.zr p.zi,.slice Ab p.body.length cb] okq oko (fun _ => False) ({ L with queue:=(L).queue.drop kn,base:=IntKind.u32.wrap (L.base + kn),sent:=L.sent - kn }) (.slice A7 (qn - kn) (c6 - kn)) o true false false (.slice none 0 0) [] wz) rfl rfl ⟨_,(by have hz1:World.cell? w_K4 ⟨g,7,none⟩ = some _:=(blk_cell K4.out.at_.blk 7).trans rfl; have hz2:=blk_frozen K4.out.at_.blk 7; first | (go_simp; done) | (go_simp; rfl)),hT⟩ (fun w_K5 hF => ?_)); (have K5:=Lib.hid hF); (clear hF hT); (clear hl7 hp0); (have hp0:w_K5.cell? ⟨w.heap.size,0,none⟩ = some (.int .i64 p.kind):=(blk_cell K5.out.pb 0).trans rfl)) | ((with_reducible refine gate_ (.store 3 (.tmp 182) (.const (.int .i64 0))) rfl ?_); (have hT:TS w B S g #[.int .i64 p.kind,.int .u32 p.mine,.int .u32 p.boot,.int .u32 p.yours,.int .u32 p.seq,.int .u32 p.ack,.int .u32 p.stamp,.int .u32 p.echo,.complex .f64 p.zr p.zi,.slice Ab p.body.length cb] okq oko (fun _ => False) (cutL (L) kn) (.slice A7 (qn - kn) (c6 - kn)) o true false false (.slice none 0 0) [] (World.setCell w_K5 ⟨g,10,none⟩ (.int .i64 0)):=TS.setL1 K5.out hB 10 (.int .i64 0) rfl rfl rfl); (refine store_F (fun wz => TS w B S g #[.int .i64 p.kind,.int .u32 p.mine,.int .u32 p.boot,.int .u32 p.yours,.int .u32 p.seq,.int .u32 p.ack,.int .u32 p.stamp,.int .u32 p.echo,.complex .f64 p.zr p.zi,.slice Ab p.body.length cb] okq oko (fun _ => False) (cutL (L) kn) (.slice A7 (qn - kn) (c6 - kn)) o true false false (.slice none 0 0) [] wz) rfl rfl ⟨_,(by have hz1:World.cell? w_K5 ⟨g,10,none⟩ = some _:=(blk_cell K5.out.at_.blk 10).trans rfl; have hz2:=blk_frozen K5.out.at_.blk 10; first | (go_simp; done) | (go_simp; rfl)),hT⟩ (fun w_K6 hF => ?_)); (have K6:=Lib.hid hF); (clear hF hT); (clear hp0); (have hp0:w_K6.cell? ⟨w.heap.size,0,none⟩ = some (.int .i64 p.kind):=(blk_cell K6.out.pb 0).trans rfl)) | (go_at_call 74; (refine (fill_of K6.out.at_ (cut_ok (OK.out) HKS.out) (Nat.le_trans hB K6.out.kept.1)).mono ?_); (rintro e w_K7 ⟨rfl,hE⟩); (obtain ⟨oko_K7,o_K7,hF⟩:=TS.emits K6.out hB hE); (clear hE); (have K7:=Lib.hid hF); (clear hF); (clear hp0); (have hp0:w_K7.cell? ⟨w.heap.size,0,none⟩ = some (.int .i64 p.kind):=(blk_cell K7.out.pb 0).trans rfl)))
 refine wp_label ?_
 go_wp2_with (first | ((with_reducible refine gate_dst (N:=207) rfl ?_); (refine wpList_load_row rfl 56 (.tmp 6) rfl (w.heap.size + 1) (by rfl) 56 _ (0,0) _ (by first | exact K7.out.tb | exact (K7.out.drewN hB _).tb) Try.underlying56 rfl (by kernel_rfl) ?_)) | ((with_reducible refine gate_ (.store 56 (.tmp 6) (.tmp 207)) rfl ?_); (refine store_row_F rfl rfl 56 (.tmp 6) (.tmp 207) rfl (w.heap.size + 1) _ rfl rfl 56 _ (by first | exact K7.out.tb | exact (K7.out.drewN hB _).tb) (by kernel_rfl) rfl (by kernel_rfl) ?_); (intro w_K8 hb9 hat9); (have hF:=TS.setT (by first | exact K7.out | exact K7.out.drewN hB _ | exact K7.out.drew hB) hB hat9 hb9 (by first | exact K7.out.brow | exact (K7.out.drewN hB _).brow) (by first | exact K7.out.okb | exact (K7.out.drewN hB _).okb)); (have K8:=Lib.hid hF); (clear hF hb9 hat9)))
 refine Jump.ret ?_
 refine bodyPost_ret ?_ rfl (K8.out.ends)
 exact results_cell2 Try.results34 _ _ rfl rfl (run_loadVar_row (P:=Try.prog) _ (w.heap.size + 1) 56 56 _ (0,0) _ K8.out.tb Try.underlying56 rfl (by kernel_rfl))
set_option maxRecDepth 100000 in
set_option maxHeartbeats 4000000 in
theorem take_up00z {w:World} {B g:Nat} {okq oko S:Nat → Prop} {L:Lk} {q o:Value} (h:At w B okq oko g L q o) (hok:L.Ok) (hS:∀ k,holds okq oko g k → S k) (hB:B ≤ w.heap.size) (boot:Int) (p:Pkt) (Ab:Option Addr) (cb:Nat)
  (hb0:boot ≠ 0) (hbr:0 ≤ boot ∧ boot < 4294967296) (hpr:p.Rng) (hck:checkP p.kind p.mine p.boot p.yours p.seq p.ack p.stamp p.echo p.zr p.zi p.body.length = 0)  (hph:L.phase = 2) (hag:ageF L boot p.mine = 0) (hmn:meantF L p = true) (hpl:p.body.length ≤ 1000) {okp:Nat → Prop} (hR:(Kd.int .u8).R 5 w B okp (.slice Ab p.body.length cb) p.body) (hkp:∀ k,okp k → ¬ S k) (kn:Nat) (hkk:IntKind.u32.wrap (p.ack - L.base) = kn) (hkn:p.kind ≠ 1) (hkm:p.kind ≠ 2) (h1k:kn = 0) :
  Calls Try.prog 34 #[.pointer (some ⟨g,0,none⟩),.int .u32 boot,.agg #[.int .i64 p.kind,.int .u32 p.mine,.int .u32 p.boot,.int .u32 p.yours,.int .u32 p.seq,.int .u32 p.ack,.int .u32 p.stamp,.int .u32 p.echo,.complex .f64 p.zr p.zi,.slice Ab p.body.length cb]] w fun e w' => Took w B S g (L) true false false [] e w':=by
 have HG0:=Lib.hid (show (((w.alloc (.cells #[.int .i64 p.kind,.int .u32 p.mine,.int .u32 p.boot,.int .u32 p.yours,.int .u32 p.seq,.int .u32 p.ack,.int .u32 p.stamp,.int .u32 p.echo,.complex .f64 p.zr p.zi,.slice Ab p.body.length cb] 27)).alloc (.cells #[.bool false,.bool false,.bool false,.slice none 0 0] 56))).heap[w.heap.size]? = some (.cells #[.int .i64 p.kind,.int .u32 p.mine,.int .u32 p.boot,.int .u32 p.yours,.int .u32 p.seq,.int .u32 p.ack,.int .u32 p.stamp,.int .u32 p.echo,.complex .f64 p.zr p.zi,.slice Ab p.body.length cb] 27 (0,0)) from (Below.heap_alloc _ _ _ (by simp)).trans (heap_alloc_new w _))
 have H:=Lib.hid h
 have OK:=Lib.hid hok
 have HS:=Lib.hid hS
 have HPR:=Lib.hid hpr
 have HCK:=Lib.hid hck
 have hbz:(boot == 0) = false:=by simp [hb0]
 have HPH:=Lib.hid hph
 clear hph
 have HAG:=Lib.hid hag
 clear hag
 clear hbr
 have HMN:=Lib.hid hmn
 clear hmn
 have HRP:=Lib.hid hR
 have HKP:=Lib.hid hkp
 have HPL:=Lib.hid hpl
 clear hR hkp hpl
 have HKK:=Lib.hid hkk
 clear hkk
 have hlb:=OK.out.sent
 have hqb:=OK.out.queue
 have hd4:(p.kind == 1) = false:=by simp [hkn]
 have hd5:(p.kind == 2) = false:=by simp [hkm]
 clear hkn hkm
 have hd7:decide ((kn:Int) ≥ 1) = false:=by simp; omega
 clear h1k
 clear h hok hS hpr hck hb0
 go_enter Try.func34,Try.ntmps34
 go_wp2_with fail
 refine wp_scope_hid 3 (fun C HC => ?_)
 go_wp2_with (first | ((with_reducible refine gate_dst (N:=17) rfl ?_); (refine wpList_load_row rfl 27 (.tmp 5) rfl w.heap.size (by rfl) 27 #[.int .i64 p.kind,.int .u32 p.mine,.int .u32 p.boot,.int .u32 p.yours,.int .u32 p.seq,.int .u32 p.ack,.int .u32 p.stamp,.int .u32 p.echo,.complex .f64 p.zr p.zi,.slice Ab p.body.length cb] (0,0) _ HG0.out Try.underlying27 rfl (by kernel_rfl) ?_)) | (go_at_call 20; (refine (check_any _ _ _ _ _ _ _ _ _ _ _ _ _ _ HPR.out.zr HPR.out.zi).mono ?_); (rintro e w_K0 ⟨rfl,hb⟩); (rw [HCK.out]); (have K0:=Lib.hid (TS.start (pc:=#[.int .i64 p.kind,.int .u32 p.mine,.int .u32 p.boot,.int .u32 p.yours,.int .u32 p.seq,.int .u32 p.ack,.int .u32 p.stamp,.int .u32 p.echo,.complex .f64 p.zr p.zi,.slice Ab p.body.length cb]) H.out HS.out hB (hb.mono (by simp)))); (clear hb); (have hl1:w_K0.cell? ⟨g,1,none⟩ = some (.int .i64 2):=(blk_cell K0.out.at_.blk 1).trans (congrArg (fun x => some (Value.int .i64 x)) HPH.out)); (have hp0:w_K0.cell? ⟨w.heap.size,0,none⟩ = some (.int .i64 p.kind):=(blk_cell K0.out.pb 0).trans rfl); (have hp1:w_K0.cell? ⟨w.heap.size,1,none⟩ = some (.int .u32 p.mine):=(blk_cell K0.out.pb 1).trans rfl)) | (go_at_call 76; (refine (age_of K0.out.at_ boot p.mine).mono ?_); (rintro e w1 ⟨rfl,rfl⟩); (rw [HAG.out])) | ((with_reducible refine gate_dst (N:=59) rfl ?_); (refine gate_guard (by rfl) ?_); (refine wpList_load_row rfl 27 (.tmp 5) rfl w.heap.size (by rfl) 27 _ (0,0) _ (by first | exact K0.out.pb | exact (K0.out.drewN hB _).pb) Try.underlying27 rfl (by kernel_rfl) ?_)) | (go_at_call 77; (refine (meant_of K0.out.at_ p (.slice Ab p.body.length cb)).mono ?_); (rintro e w_K1 ⟨rfl,hb⟩); (have hme:meantF (L) p = true:=HMN.out); (rw [hme]); (clear hme); (have K1:=Lib.hid (K0.out.sub hB hb)); (clear hb); (clear hl1 hp0 hp1)) | ((with_reducible refine gate_ (.store 4 (.tmp 62) (.const (.bool true))) rfl ?_); (refine store_F (fun wz => TS w B S g #[.int .i64 p.kind,.int .u32 p.mine,.int .u32 p.boot,.int .u32 p.yours,.int .u32 p.seq,.int .u32 p.ack,.int .u32 p.stamp,.int .u32 p.echo,.complex .f64 p.zr p.zi,.slice Ab p.body.length cb] okq oko (fun _ => False) (L) q o true false false (.slice none 0 0) [] wz) rfl rfl ⟨_,(by have hz1:World.cell? w_K1 ⟨w.heap.size + 1,0,none⟩ = some _:=(blk_cell K1.out.tb 0).trans rfl; have hz2:=blk_frozen K1.out.tb 0; first | (go_simp; done) | (go_simp; rfl)),TS.setT1 K1.out hB 0 _ rfl⟩ (fun w_K2 hF => ?_)); (have K2:=Lib.hid hF); (clear hF); (have hl9:w_K2.cell? ⟨g,9,none⟩ = some (.int .u32 L.expected):=(blk_cell K2.out.at_.blk 9).trans rfl); (have hp0:w_K2.cell? ⟨w.heap.size,0,none⟩ = some (.int .i64 p.kind):=(blk_cell K2.out.pb 0).trans rfl); (have hp4:w_K2.cell? ⟨w.heap.size,4,none⟩ = some (.int .u32 p.seq):=(blk_cell K2.out.pb 4).trans rfl)))
 refine wp_goto ?_
 refine Jump.goto HC.out rfl ?_
 go_wp2_with fail
 go_quiet (fail)
 rename Nat => nqq1
 clear hl9 hp0 hp4
 have hl8:w_K2.cell? ⟨g,8,none⟩ = some (.int .u32 L.base):=(blk_cell K2.out.at_.blk 8).trans rfl
 have hp5:w_K2.cell? ⟨w.heap.size,5,none⟩ = some (.int .u32 p.ack):=(blk_cell K2.out.pb 5).trans rfl
 have hp0:w_K2.cell? ⟨w.heap.size,0,none⟩ = some (.int .i64 p.kind):=(blk_cell K2.out.pb 0).trans rfl
 go_wp2_with fail
 go_quiet ((go_at_call 79; refine (ahead_of _ _ _).mono fun _ _ hq => ⟨hq.1.trans (congrArg (fun x => Ending.returned (.int .u32 x)) HKK.out),_,hq.2.symm⟩))
 rename Nat => nqq2
 go_wp2_with fail
 refine wp_label ?_
 go_wp2_with (first | ((with_reducible refine gate_dst (N:=207) rfl ?_); (refine wpList_load_row rfl 56 (.tmp 6) rfl (w.heap.size + 1) (by rfl) 56 _ (0,0) _ (by first | exact K2.out.tb | exact (K2.out.drewN hB _).tb) Try.underlying56 rfl (by kernel_rfl) ?_)) | ((with_reducible refine gate_ (.store 56 (.tmp 6) (.tmp 207)) rfl ?_); (refine store_row_F rfl rfl 56 (.tmp 6) (.tmp 207) rfl (w.heap.size + 1) _ rfl rfl 56 _ (by first | exact K2.out.tb | exact (K2.out.drewN hB _).tb) (by kernel_rfl) rfl (by kernel_rfl) ?_); (intro w_K3 hb9 hat9); (have hF:=TS.setT (by first | exact K2.out | exact K2.out.drewN hB _ | exact K2.out.drew hB) hB hat9 hb9 (by first | exact K2.out.brow | exact (K2.out.drewN hB _).brow) (by first | exact K2.out.okb | exact (K2.out.drewN hB _).okb)); (have K3:=Lib.hid hF); (clear hF hb9 hat9)))
 refine Jump.ret ?_
 refine bodyPost_ret ?_ rfl (K3.out.ends)
 exact results_cell2 Try.results34 _ _ rfl rfl (run_loadVar_row (P:=Try.prog) _ (w.heap.size + 1) 56 56 _ (0,0) _ K3.out.tb Try.underlying56 rfl (by kernel_rfl))
set_option maxRecDepth 100000 in
set_option maxHeartbeats 4000000 in
theorem take_up00b {w:World} {B g:Nat} {okq oko S:Nat → Prop} {L:Lk} {q o:Value} (h:At w B okq oko g L q o) (hok:L.Ok) (hS:∀ k,holds okq oko g k → S k) (hB:B ≤ w.heap.size) (boot:Int) (p:Pkt) (Ab:Option Addr) (cb:Nat)
  (hb0:boot ≠ 0) (hbr:0 ≤ boot ∧ boot < 4294967296) (hpr:p.Rng) (hck:checkP p.kind p.mine p.boot p.yours p.seq p.ack p.stamp p.echo p.zr p.zi p.body.length = 0)  (hph:L.phase = 2) (hag:ageF L boot p.mine = 0) (hmn:meantF L p = true) (hpl:p.body.length ≤ 1000) {okp:Nat → Prop} (hR:(Kd.int .u8).R 5 w B okp (.slice Ab p.body.length cb) p.body) (hkp:∀ k,okp k → ¬ S k) (kn:Nat) (hkk:IntKind.u32.wrap (p.ack - L.base) = kn) (hkn:p.kind ≠ 1) (hkm:p.kind ≠ 2) (h1k:1 ≤ kn) (hks:L.sent < (kn:Int)) :
  Calls Try.prog 34 #[.pointer (some ⟨g,0,none⟩),.int .u32 boot,.agg #[.int .i64 p.kind,.int .u32 p.mine,.int .u32 p.boot,.int .u32 p.yours,.int .u32 p.seq,.int .u32 p.ack,.int .u32 p.stamp,.int .u32 p.echo,.complex .f64 p.zr p.zi,.slice Ab p.body.length cb]] w fun e w' => Took w B S g (L) true false false [] e w':=by
 have HG0:=Lib.hid (show (((w.alloc (.cells #[.int .i64 p.kind,.int .u32 p.mine,.int .u32 p.boot,.int .u32 p.yours,.int .u32 p.seq,.int .u32 p.ack,.int .u32 p.stamp,.int .u32 p.echo,.complex .f64 p.zr p.zi,.slice Ab p.body.length cb] 27)).alloc (.cells #[.bool false,.bool false,.bool false,.slice none 0 0] 56))).heap[w.heap.size]? = some (.cells #[.int .i64 p.kind,.int .u32 p.mine,.int .u32 p.boot,.int .u32 p.yours,.int .u32 p.seq,.int .u32 p.ack,.int .u32 p.stamp,.int .u32 p.echo,.complex .f64 p.zr p.zi,.slice Ab p.body.length cb] 27 (0,0)) from (Below.heap_alloc _ _ _ (by simp)).trans (heap_alloc_new w _))
 have H:=Lib.hid h
 have OK:=Lib.hid hok
 have HS:=Lib.hid hS
 have HPR:=Lib.hid hpr
 have HCK:=Lib.hid hck
 have hbz:(boot == 0) = false:=by simp [hb0]
 have HPH:=Lib.hid hph
 clear hph
 have HAG:=Lib.hid hag
 clear hag
 clear hbr
 have HMN:=Lib.hid hmn
 clear hmn
 have HRP:=Lib.hid hR
 have HKP:=Lib.hid hkp
 have HPL:=Lib.hid hpl
 clear hR hkp hpl
 have HKK:=Lib.hid hkk
 clear hkk
 have hlb:=OK.out.sent
 have hqb:=OK.out.queue
 have hd4:(p.kind == 1) = false:=by simp [hkn]
 have hd5:(p.kind == 2) = false:=by simp [hkm]
 clear hkn hkm
 have hd7:decide ((kn:Int) ≥ 1) = true:=by simp; omega
 have hd8:decide ((kn:Int) ≤ L.sent) = false:=by simp; omega
 have hw8:IntKind.u32.wrap L.sent = L.sent:=by rw [wrapU]; omega
 clear h1k
 have HKS:=Lib.hid hks
 clear hks
 clear h hok hS hpr hck hb0
 go_enter Try.func34,Try.ntmps34
 go_wp2_with fail
 refine wp_scope_hid 3 (fun C HC => ?_)
 go_wp2_with (first | ((with_reducible refine gate_dst (N:=17) rfl ?_); (refine wpList_load_row rfl 27 (.tmp 5) rfl w.heap.size (by rfl) 27 #[.int .i64 p.kind,.int .u32 p.mine,.int .u32 p.boot,.int .u32 p.yours,.int .u32 p.seq,.int .u32 p.ack,.int .u32 p.stamp,.int .u32 p.echo,.complex .f64 p.zr p.zi,.slice Ab p.body.length cb] (0,0) _ HG0.out Try.underlying27 rfl (by kernel_rfl) ?_)) | (go_at_call 20; (refine (check_any _ _ _ _ _ _ _ _ _ _ _ _ _ _ HPR.out.zr HPR.out.zi).mono ?_); (rintro e w_K0 ⟨rfl,hb⟩); (rw [HCK.out]); (have K0:=Lib.hid (TS.start (pc:=#[.int .i64 p.kind,.int .u32 p.mine,.int .u32 p.boot,.int .u32 p.yours,.int .u32 p.seq,.int .u32 p.ack,.int .u32 p.stamp,.int .u32 p.echo,.complex .f64 p.zr p.zi,.slice Ab p.body.length cb]) H.out HS.out hB (hb.mono (by simp)))); (clear hb); (have hl1:w_K0.cell? ⟨g,1,none⟩ = some (.int .i64 2):=(blk_cell K0.out.at_.blk 1).trans (congrArg (fun x => some (Value.int .i64 x)) HPH.out)); (have hp0:w_K0.cell? ⟨w.heap.size,0,none⟩ = some (.int .i64 p.kind):=(blk_cell K0.out.pb 0).trans rfl); (have hp1:w_K0.cell? ⟨w.heap.size,1,none⟩ = some (.int .u32 p.mine):=(blk_cell K0.out.pb 1).trans rfl)) | (go_at_call 76; (refine (age_of K0.out.at_ boot p.mine).mono ?_); (rintro e w1 ⟨rfl,rfl⟩); (rw [HAG.out])) | ((with_reducible refine gate_dst (N:=59) rfl ?_); (refine gate_guard (by rfl) ?_); (refine wpList_load_row rfl 27 (.tmp 5) rfl w.heap.size (by rfl) 27 _ (0,0) _ (by first | exact K0.out.pb | exact (K0.out.drewN hB _).pb) Try.underlying27 rfl (by kernel_rfl) ?_)) | (go_at_call 77; (refine (meant_of K0.out.at_ p (.slice Ab p.body.length cb)).mono ?_); (rintro e w_K1 ⟨rfl,hb⟩); (have hme:meantF (L) p = true:=HMN.out); (rw [hme]); (clear hme); (have K1:=Lib.hid (K0.out.sub hB hb)); (clear hb); (clear hl1 hp0 hp1)) | ((with_reducible refine gate_ (.store 4 (.tmp 62) (.const (.bool true))) rfl ?_); (refine store_F (fun wz => TS w B S g #[.int .i64 p.kind,.int .u32 p.mine,.int .u32 p.boot,.int .u32 p.yours,.int .u32 p.seq,.int .u32 p.ack,.int .u32 p.stamp,.int .u32 p.echo,.complex .f64 p.zr p.zi,.slice Ab p.body.length cb] okq oko (fun _ => False) (L) q o true false false (.slice none 0 0) [] wz) rfl rfl ⟨_,(by have hz1:World.cell? w_K1 ⟨w.heap.size + 1,0,none⟩ = some _:=(blk_cell K1.out.tb 0).trans rfl; have hz2:=blk_frozen K1.out.tb 0; first | (go_simp; done) | (go_simp; rfl)),TS.setT1 K1.out hB 0 _ rfl⟩ (fun w_K2 hF => ?_)); (have K2:=Lib.hid hF); (clear hF); (have hl9:w_K2.cell? ⟨g,9,none⟩ = some (.int .u32 L.expected):=(blk_cell K2.out.at_.blk 9).trans rfl); (have hp0:w_K2.cell? ⟨w.heap.size,0,none⟩ = some (.int .i64 p.kind):=(blk_cell K2.out.pb 0).trans rfl); (have hp4:w_K2.cell? ⟨w.heap.size,4,none⟩ = some (.int .u32 p.seq):=(blk_cell K2.out.pb 4).trans rfl)))
 refine wp_goto ?_
 refine Jump.goto HC.out rfl ?_
 go_wp2_with fail
 go_quiet (fail)
 rename Nat => nqq1
 clear hl9 hp0 hp4
 have hl8:w_K2.cell? ⟨g,8,none⟩ = some (.int .u32 L.base):=(blk_cell K2.out.at_.blk 8).trans rfl
 have hl7:w_K2.cell? ⟨g,7,none⟩ = some (.int .i64 L.sent):=(blk_cell K2.out.at_.blk 7).trans rfl
 have hp5:w_K2.cell? ⟨w.heap.size,5,none⟩ = some (.int .u32 p.ack):=(blk_cell K2.out.pb 5).trans rfl
 have hp0:w_K2.cell? ⟨w.heap.size,0,none⟩ = some (.int .i64 p.kind):=(blk_cell K2.out.pb 0).trans rfl
 go_wp2_with fail
 go_quiet ((go_at_call 79; refine (ahead_of _ _ _).mono fun _ _ hq => ⟨hq.1.trans (congrArg (fun x => Ending.returned (.int .u32 x)) HKK.out),_,hq.2.symm⟩))
 rename Nat => nqq2
 go_wp2_with fail
 refine wp_label ?_
 go_wp2_with (first | ((with_reducible refine gate_dst (N:=207) rfl ?_); (refine wpList_load_row rfl 56 (.tmp 6) rfl (w.heap.size + 1) (by rfl) 56 _ (0,0) _ (by first | exact K2.out.tb | exact (K2.out.drewN hB _).tb) Try.underlying56 rfl (by kernel_rfl) ?_)) | ((with_reducible refine gate_ (.store 56 (.tmp 6) (.tmp 207)) rfl ?_); (refine store_row_F rfl rfl 56 (.tmp 6) (.tmp 207) rfl (w.heap.size + 1) _ rfl rfl 56 _ (by first | exact K2.out.tb | exact (K2.out.drewN hB _).tb) (by kernel_rfl) rfl (by kernel_rfl) ?_); (intro w_K3 hb9 hat9); (have hF:=TS.setT (by first | exact K2.out | exact K2.out.drewN hB _ | exact K2.out.drew hB) hB hat9 hb9 (by first | exact K2.out.brow | exact (K2.out.drewN hB _).brow) (by first | exact K2.out.okb | exact (K2.out.drewN hB _).okb)); (have K3:=Lib.hid hF); (clear hF hb9 hat9)))
 refine Jump.ret ?_
 refine bodyPost_ret ?_ rfl (K3.out.ends)
 exact results_cell2 Try.results34 _ _ rfl rfl (run_loadVar_row (P:=Try.prog) _ (w.heap.size + 1) 56 56 _ (0,0) _ K3.out.tb Try.underlying56 rfl (by kernel_rfl))
end Go.Proofs.Ytnkkgofpifhoeaa.Lk
end
section
namespace Go.Proofs.Ytnkkgofpifhoeaa.Lk
open Go.RowKit Go.Proofs.Ytnkkgofpifhoeaa.Base Go.Proofs.Ytnkkgofpifhoeaa.Steps Go.Proofs.Ytnkkgofpifhoeaa.Pk Go.Proofs.Ytnkkgofpifhoeaa.Jmp Go.Proofs.YtnkkgofpifhoeaaW.PrintWords Go.Proofs.YtnkkgofpifhoeaaW.PrintLast
set_option maxRecDepth 100000 in
set_option maxHeartbeats 4000000 in
theorem take_up10a {w:World} {B g:Nat} {okq oko S:Nat → Prop} {L:Lk} {q o:Value} (h:At w B okq oko g L q o) (hok:L.Ok) (hS:∀ k,holds okq oko g k → S k) (hB:B ≤ w.heap.size) (boot:Int) (p:Pkt) (Ab:Option Addr) (cb:Nat)
  (hb0:boot ≠ 0) (hbr:0 ≤ boot ∧ boot < 4294967296) (hpr:p.Rng) (hck:checkP p.kind p.mine p.boot p.yours p.seq p.ack p.stamp p.echo p.zr p.zi p.body.length = 0)  (hph:L.phase = 2) (hag:ageF L boot p.mine = 0) (hmn:meantF L p = true) (hpl:p.body.length ≤ 1000) {okp:Nat → Prop} (hR:(Kd.int .u8).R 5 w B okp (.slice Ab p.body.length cb) p.body) (hkp:∀ k,okp k → ¬ S k) (kn:Nat) (hkk:IntKind.u32.wrap (p.ack - L.base) = kn) (hkd:p.kind = 2) (hsq:¬ p.seq = L.expected) (h1k:1 ≤ kn) (hks:(kn:Int) ≤ L.sent) :
  Calls Try.prog 34 #[.pointer (some ⟨g,0,none⟩),.int .u32 boot,.agg #[.int .i64 p.kind,.int .u32 p.mine,.int .u32 p.boot,.int .u32 p.yours,.int .u32 p.seq,.int .u32 p.ack,.int .u32 p.stamp,.int .u32 p.echo,.complex .f64 p.zr p.zi,.slice Ab p.body.length cb]] w fun e w' => Took w B S g (emit_ (fill_ (cutL (L) kn)) (ackP (fill_ (cutL (L) kn)))) true false false [] e w':=by
 have HG0:=Lib.hid (show (((w.alloc (.cells #[.int .i64 p.kind,.int .u32 p.mine,.int .u32 p.boot,.int .u32 p.yours,.int .u32 p.seq,.int .u32 p.ack,.int .u32 p.stamp,.int .u32 p.echo,.complex .f64 p.zr p.zi,.slice Ab p.body.length cb] 27)).alloc (.cells #[.bool false,.bool false,.bool false,.slice none 0 0] 56))).heap[w.heap.size]? = some (.cells #[.int .i64 p.kind,.int .u32 p.mine,.int .u32 p.boot,.int .u32 p.yours,.int .u32 p.seq,.int .u32 p.ack,.int .u32 p.stamp,.int .u32 p.echo,.complex .f64 p.zr p.zi,.slice Ab p.body.length cb] 27 (0,0)) from (Below.heap_alloc _ _ _ (by simp)).trans (heap_alloc_new w _))
 have H:=Lib.hid h
 have OK:=Lib.hid hok
 have HS:=Lib.hid hS
 have HPR:=Lib.hid hpr
 have HCK:=Lib.hid hck
 have hbz:(boot == 0) = false:=by simp [hb0]
 have HPH:=Lib.hid hph
 clear hph
 have HAG:=Lib.hid hag
 clear hag
 have HKD:=Lib.hid hkd
 clear hkd
 clear hbr
 have HMN:=Lib.hid hmn
 clear hmn
 have HRP:=Lib.hid hR
 have HKP:=Lib.hid hkp
 have HPL:=Lib.hid hpl
 clear hR hkp hpl
 have HKK:=Lib.hid hkk
 clear hkk
 have hlb:=OK.out.sent
 have hqb:=OK.out.queue
 have hd6:(p.seq == L.expected) = false:=by simp [hsq]
 clear hsq
 have hd7:decide ((kn:Int) ≥ 1) = true:=by simp; omega
 have hd8:decide ((kn:Int) ≤ L.sent) = true:=by simp; omega
 have hw8:IntKind.u32.wrap L.sent = L.sent:=by rw [wrapU]; omega
 clear h1k
 have HKS:=Lib.hid hks
 clear hks
 obtain ⟨A6,c6,hq6,hl6⟩:=Kd.Q_slice h.queue
 subst hq6
 have HKQ:=Lib.hid (show kn ≤ L.queue.length by have:=HKS.out; omega)
 have hsl:=slice45 A6 L.queue.length c6 kn HKQ.out hl6
 obtain ⟨A7,hA7⟩:∃ A,A = (if c6 = kn then A6 else A6.map (·.add (kn * bytes.sz))):=⟨_,rfl⟩
 rw [← hA7] at hsl
 have HA7:=Lib.hid hA7
 clear hA7
 clear hl6
 have hkq:=HKQ.out
 generalize hqn:L.queue.length = qn at H hsl hkq hlb hqb
 have HQN:=Lib.hid hqn
 clear hqn
 have hc4:kn < 4294967296:=by omega
 clear h hok hS hpr hck hb0
 go_enter Try.func34,Try.ntmps34
 go_wp2_with fail
 refine wp_scope_hid 3 (fun C HC => ?_)
 go_wp2_with (first | ((with_reducible refine gate_dst (N:=17) rfl ?_); (refine wpList_load_row rfl 27 (.tmp 5) rfl w.heap.size (by rfl) 27 #[.int .i64 p.kind,.int .u32 p.mine,.int .u32 p.boot,.int .u32 p.yours,.int .u32 p.seq,.int .u32 p.ack,.int .u32 p.stamp,.int .u32 p.echo,.complex .f64 p.zr p.zi,.slice Ab p.body.length cb] (0,0) _ HG0.out Try.underlying27 rfl (by kernel_rfl) ?_)) | (go_at_call 20; (refine (check_any _ _ _ _ _ _ _ _ _ _ _ _ _ _ HPR.out.zr HPR.out.zi).mono ?_); (rintro e w_K0 ⟨rfl,hb⟩); (rw [HCK.out]); (have K0:=Lib.hid (TS.start (pc:=#[.int .i64 p.kind,.int .u32 p.mine,.int .u32 p.boot,.int .u32 p.yours,.int .u32 p.seq,.int .u32 p.ack,.int .u32 p.stamp,.int .u32 p.echo,.complex .f64 p.zr p.zi,.slice Ab p.body.length cb]) H.out HS.out hB (hb.mono (by simp)))); (clear hb); (have hl1:w_K0.cell? ⟨g,1,none⟩ = some (.int .i64 2):=(blk_cell K0.out.at_.blk 1).trans (congrArg (fun x => some (Value.int .i64 x)) HPH.out)); (have hp0:w_K0.cell? ⟨w.heap.size,0,none⟩ = some (.int .i64 2):=(blk_cell K0.out.pb 0).trans (congrArg (fun x => some (Value.int .i64 x)) HKD.out)); (have hp1:w_K0.cell? ⟨w.heap.size,1,none⟩ = some (.int .u32 p.mine):=(blk_cell K0.out.pb 1).trans rfl)) | (go_at_call 76; (refine (age_of K0.out.at_ boot p.mine).mono ?_); (rintro e w1 ⟨rfl,rfl⟩); (rw [HAG.out])) | ((with_reducible refine gate_dst (N:=59) rfl ?_); (refine gate_guard (by rfl) ?_); (refine wpList_load_row rfl 27 (.tmp 5) rfl w.heap.size (by rfl) 27 _ (0,0) _ (by first | exact K0.out.pb | exact (K0.out.drewN hB _).pb) Try.underlying27 rfl (by kernel_rfl) ?_)) | (go_at_call 77; (refine (meant_of K0.out.at_ p (.slice Ab p.body.length cb)).mono ?_); (rintro e w_K1 ⟨rfl,hb⟩); (have hme:meantF (L) p = true:=HMN.out); (rw [hme]); (clear hme); (have K1:=Lib.hid (K0.out.sub hB hb)); (clear hb); (clear hl1 hp0 hp1)) | ((with_reducible refine gate_ (.store 4 (.tmp 62) (.const (.bool true))) rfl ?_); (refine store_F (fun wz => TS w B S g #[.int .i64 p.kind,.int .u32 p.mine,.int .u32 p.boot,.int .u32 p.yours,.int .u32 p.seq,.int .u32 p.ack,.int .u32 p.stamp,.int .u32 p.echo,.complex .f64 p.zr p.zi,.slice Ab p.body.length cb] okq oko (fun _ => False) (L) (.slice A6 qn c6) o true false false (.slice none 0 0) [] wz) rfl rfl ⟨_,(by have hz1:World.cell? w_K1 ⟨w.heap.size + 1,0,none⟩ = some _:=(blk_cell K1.out.tb 0).trans rfl; have hz2:=blk_frozen K1.out.tb 0; first | (go_simp; done) | (go_simp; rfl)),TS.setT1 K1.out hB 0 _ rfl⟩ (fun w_K2 hF => ?_)); (have K2:=Lib.hid hF); (clear hF); (have hl9:w_K2.cell? ⟨g,9,none⟩ = some (.int .u32 L.expected):=(blk_cell K2.out.at_.blk 9).trans rfl); (have hp0:w_K2.cell? ⟨w.heap.size,0,none⟩ = some (.int .i64 2):=(blk_cell K2.out.pb 0).trans (congrArg (fun x => some (Value.int .i64 x)) HKD.out)); (have hp4:w_K2.cell? ⟨w.heap.size,4,none⟩ = some (.int .u32 p.seq):=(blk_cell K2.out.pb 4).trans rfl)))
 refine wp_goto ?_
 refine Jump.goto HC.out rfl ?_
 go_wp2_with fail
 go_quiet (fail)
 rename Nat => nqq1
 clear hl9 hp0 hp4
 have hl8:w_K2.cell? ⟨g,8,none⟩ = some (.int .u32 L.base):=(blk_cell K2.out.at_.blk 8).trans rfl
 have hl6:w_K2.cell? ⟨g,6,none⟩ = some ((.slice A6 qn c6)):=(blk_cell K2.out.at_.blk 6).trans rfl
 have hl7:w_K2.cell? ⟨g,7,none⟩ = some (.int .i64 L.sent):=(blk_cell K2.out.at_.blk 7).trans rfl
 have hp5:w_K2.cell? ⟨w.heap.size,5,none⟩ = some (.int .u32 p.ack):=(blk_cell K2.out.pb 5).trans rfl
 have hp0:w_K2.cell? ⟨w.heap.size,0,none⟩ = some (.int .i64 2):=(blk_cell K2.out.pb 0).trans (congrArg (fun x => some (Value.int .i64 x)) HKD.out)
 go_wp2_with fail
 go_quiet ((go_at_call 79; refine (ahead_of _ _ _).mono fun _ _ hq => ⟨hq.1.trans (congrArg (fun x => Ending.returned (.int .u32 x)) HKK.out),_,hq.2.symm⟩))
 rename Nat => nqq2
 go_wp2_with (first | ((with_reducible refine gate_ (.store 45 (.tmp 162) (.tmp 160)) rfl ?_); (refine store_F (fun wz => TS w B S g #[.int .i64 p.kind,.int .u32 p.mine,.int .u32 p.boot,.int .u32 p.yours,.int .u32 p.seq,.int .u32 p.ack,.int .u32 p.stamp,.int .u32 p.echo,.complex .f64 p.zr p.zi,.slice Ab p.body.length cb] okq oko (fun _ => False) ({ L with queue:=(L).queue.drop kn }) (.slice A7 (qn - kn) (c6 - kn)) o true false false (.slice none 0 0) [] wz) rfl rfl ⟨_,(by have hz1:World.cell? w_K2 ⟨g,6,none⟩ = some _:=(blk_cell K2.out.at_.blk 6).trans rfl; have hz2:=blk_frozen K2.out.at_.blk 6; first | (go_simp; done) | (go_simp; rfl)),TS.cut (K2.out.drewN hB (nqq1 + nqq2)) hB rfl HKQ.out HA7.out⟩ (fun w_K3 hF => ?_)); (have K3:=Lib.hid hF); (clear hF); (clear hl8 hl6 hl7 hp5 hp0); (have hl8:w_K3.cell? ⟨g,8,none⟩ = some (.int .u32 L.base):=(blk_cell K3.out.at_.blk 8).trans rfl); (have hl7:w_K3.cell? ⟨g,7,none⟩ = some (.int .i64 L.sent):=(blk_cell K3.out.at_.blk 7).trans rfl); (have hp0:w_K3.cell? ⟨w.heap.size,0,none⟩ = some (.int .i64 2):=(blk_cell K3.out.pb 0).trans (congrArg (fun x => some (Value.int .i64 x)) HKD.out))) | ((with_reducible refine gate_ (.store 24 (.tmp 170) (.tmp 168)) rfl ?_); (have hT:TS w B S g #[.int .i64 p.kind,.int .u32 p.mine,.int .u32 p.boot,.int .u32 p.yours,.int .u32 p.seq,.int .u32 p.ack,.int .u32 p.stamp,.int .u32 p.echo,.complex .f64 p.zr p.zi,.slice Ab p.body.length cb] okq oko (fun _ => False) ({ L with queue:=(L).queue.drop kn,base:=IntKind.u32.wrap (L.base + kn) }) (.slice A7 (qn - kn) (c6 - kn)) o true false false (.slice none 0 0) [] (World.setCell w_K3 ⟨g,8,none⟩ (.int .u32 (IntKind.u32.wrap (L.base + kn)))):=TS.setL1 K3.out hB 8 (.int .u32 (IntKind.u32.wrap (L.base + kn))) rfl rfl rfl); (refine store_F (fun wz => TS w B S g #[.int .i64 p.kind,.int .u32 p.mine,.int .u32 p.boot,.int .u32 p.yours,.int .u32 p.seq,.int .u32 p.ack,.int .u32 p.stamp,.int .u32 p.echo,.complex .f64 p.zr p.zi,.slice Ab p.body.length cb] okq oko (fun _ => False) ({ L with queue:=(L).queue.drop kn,base:=IntKind.u32.wrap (L.base + kn) }) (.slice A7 (qn - kn) (c6 - kn)) o true false false (.slice none 0 0) [] wz) rfl rfl ⟨_,(by have hz1:World.cell? w_K3 ⟨g,8,none⟩ = some _:=(blk_cell K3.out.at_.blk 8).trans rfl; have hz2:=blk_frozen K3.out.at_.blk 8; first | (go_simp; done) | (go_simp; rfl)),hT⟩ (fun w_K4 hF => ?_)); (have K4:=Lib.hid hF); (clear hF hT); (clear hl8 hl7 hp0); (have hl7:w_K4.cell? ⟨g,7,none⟩ = some (.int .i64 L.sent):=(blk_cell K4.out.at_.blk 7).trans rfl); (have hp0:w_K4.cell? ⟨w.heap.size,0,none⟩ = some (.int .i64 2):=(blk_cell K4.out.pb 0).trans (congrArg (fun x => some (Value.int .i64 x)) HKD.out))) | ((with_reducible refine gate_ (.store 3 (.tmp 179) (.tmp 177)) rfl ?_); (have hT:TS w B S g #[.int .i64 p.kind,.int .u32 p.mine,.int .u32 p.boot,.int .u32 p.yours,.int .u32 p.seq,.int .u32 p.ack,.int .u32 p.stamp,.int .u32 p.echo,.complex .f64 p.zr p.zi,.slice Ab p.body.length cb] okq oko (fun _ => False) ({ L with queue:=(L).queue.drop kn,base:=IntKind.u32.wrap (L.base + kn),sent:=L.sent - kn }) (.slice A7 (qn - kn) (c6 - kn)) o true false false (.slice none 0 0) [] (World.setCell w_K4 ⟨g,7,none⟩ (.int .i64 (L.sent - kn))):=TS.setL1 K4.out hB 7 (.int .i64 (L.sent - kn)) rfl rfl rfl); (refine store_F (fun wz => TS w B S g #[.int .i64 p.kind,.int .u32 p.mine,.int .u32 p.boot,.int .u32 p.yours,.int .u32 p.seq,.int .u32 p.ack,.int .u32 p.stamp,.int .u32 p.echo,.complex .f64 p.zr p.zi,.slice Ab p.body.length cb] okq oko (fun _ => False) ({ L with queue:=(L).queue.drop kn,base:=IntKind.u32.wrap (L.base + kn),sent:=L.sent - kn }) (.slice A7 (qn - kn) (c6 - kn)) o true false false (.slice none 0 0) [] wz) rfl rfl ⟨_,(by have hz1:World.cell? w_K4 ⟨g,7,none⟩ = some _:=(blk_cell K4.out.at_.blk 7).trans rfl; have hz2:=blk_frozen K4.out.at_.blk 7; first | (go_simp; done) | (go_simp; rfl)),hT⟩ (fun w_K5 hF => ?_)); (have K5:=Lib.hid hF); (clear hF hT); (clear hl7 hp0); (have hp0:w_K5.cell? ⟨w.heap.size,0,none⟩ = some (.int .i64 2):=(blk_cell K5.out.pb 0).trans (congrArg (fun x => some (Value.int .i64 x)) HKD.out))) | ((with_reducible refine gate_ (.store 3 (.tmp 182) (.const (.int .i64 0))) rfl ?_); (have hT:TS w B S g #[.int .i64 p.kind,.int .u32 p.mine,.int .u32 p.boot,.int .u32 p.yours,.int .u32 p.seq,.int .u32 p.ack,.int .u32 p.stamp,.int .u32 p.echo,.complex .f64 p.zr p.zi,.slice Ab p.body.length cb] okq oko (fun _ => False) (cutL (L) kn) (.slice A7 (qn - kn) (c6 - kn)) o true false false (.slice none 0 0) [] (World.setCell w_K5 ⟨g,10,none⟩ (.int .i64 0)):=TS.setL1 K5.out hB 10 (.int .i64 0) rfl rfl rfl); (refine store_F (fun wz => TS w B S g #[.int .i64 p.kind,.int .u32 p.mine,.int .u32 p.boot,.int .u32 p.yours,.int .u32 p.seq,.int .u32 p.ack,.int .u32 p.stamp,.int .u32 p.echo,.complex .f64 p.zr p.zi,.slice Ab p.body.length cb] okq oko (fun _ => False) (cutL (L) kn) (.slice A7 (qn - kn) (c6 - kn)) o true false false (.slice none 0 0) [] wz) rfl rfl ⟨_,(by have hz1:World.cell? w_K5 ⟨g,10,none⟩ = some _:=(blk_cell K5.out.at_.blk 10).trans rfl; have hz2:=blk_frozen K5.out.at_.blk 10; first | (go_simp; done) | (go_simp; rfl)),hT⟩ (fun w_K6 hF => ?_)); (have K6:=Lib.hid hF); (clear hF hT); (clear hp0); (have hp0:w_K6.cell? ⟨w.heap.size,0,none⟩ = some (.int .i64 2):=(blk_cell K6.out.pb 0).trans (congrArg (fun x => some (Value.int .i64 x)) HKD.out))) | (go_at_call 74; (refine (fill_of K6.out.at_ (cut_ok (OK.out) HKS.out) (Nat.le_trans hB K6.out.kept.1)).mono ?_); (rintro e w_K7 ⟨rfl,hE⟩); (obtain ⟨oko_K7,o_K7,hF⟩:=TS.emits K6.out hB hE); (clear hE); (have K7:=Lib.hid hF); (clear hF); (clear hp0); (have hp0:w_K7.cell? ⟨w.heap.size,0,none⟩ = some (.int .i64 2):=(blk_cell K7.out.pb 0).trans (congrArg (fun x => some (Value.int .i64 x)) HKD.out))))
 have hSS:w_K7.drew.heap[g]? = some (.cells (row (fill_ (cutL (L) kn)) (.slice A7 (qn - kn) (c6 - kn)) o_K7) 131 (0,0)):=K7.out.at_.blk
 have hts:=K7.out.drew hB
 clear hp0
 refine start_ (n:=19) (S:=fun w' => w'.heap[g]? = some (.cells (row (fill_ (cutL (L) kn)) (.slice A7 (qn - kn) (c6 - kn)) o_K7) 131 (0,0))) (ds:=[18]) M0g (by kernel_rfl) rfl rfl (hSS) (fun hHeld => ?_)
 generalize w_K7.drew = w_Y8 at hts hHeld ⊢
 have KY8:=Lib.hid hts
 clear hts hSS
 have HC9:=Lib.hid (emit_of (⟨3,(fill_ (cutL (L) kn)).token,(fill_ (cutL (L) kn)).boot,(fill_ (cutL (L) kn)).yours,0,(fill_ (cutL (L) kn)).expected,0,0,0,0,[]⟩:Pkt) (.slice none 0 0) KY8.out.at_ (fill_ok (cut_ok (OK.out) HKS.out)) (Nat.le_trans hB KY8.out.kept.1) (okp:=fun _ => False) (pkt_M.2 ⟨_,rfl,Kd.R_nil _ _ _ _ _⟩) (fun _ hk => hk.elim))
 refine pure_ (i:=0) (N:=some 188) (v:=?_) (a':=?_) M0h rfl rfl (by kernel_rfl) (fun _ _ _ h => h) (Or.inl ⟨by rfl,?_⟩) ?_ ?_
 rotate_left
 ·intro w'
  go_simp
  with_reducible rfl
 rotate_left
 ·simp only [Act.put,sA,sZ,sS]
  rfl
 refine pure_ (i:=1) (N:=some 189) (v:=?_) (a':=?_) M0i rfl rfl (by kernel_rfl) (fun _ _ _ h => h) (Or.inl ⟨by rfl,?_⟩) ?_ ?_
 rotate_left
 ·intro w'
  go_simp
  with_reducible rfl
 rotate_left
 ·simp only [Act.put,sA,sZ,sS]
  rfl
 refine pure_ (i:=2) (N:=some 190) (v:=?_) (a':=?_) M0j rfl rfl (by kernel_rfl) (fun _ _ _ h => h) (Or.inl ⟨by rfl,?_⟩) ?_ ?_
 rotate_left
 ·intro w'
  go_simp
  with_reducible rfl
 rotate_left
 ·simp only [Act.put,sA,sZ,sS]
  rfl
 refine pure_ (i:=3) (N:=some 191) (v:=?_) (a':=?_) M0k rfl rfl (by kernel_rfl) (fun _ _ _ h => h) (Or.inl ⟨by rfl,?_⟩) ?_ ?_
 rotate_left
 ·intro w'
  go_simp
  with_reducible rfl
 rotate_left
 ·simp only [Act.put,sA,sZ,sS]
  rfl
 refine take_ (i:=4) (N:=some 192) (v:=?_) (a':=?_) M0l rfl rfl (by kernel_rfl) (fun _ _ _ h => h) (Or.inl ⟨by rfl,?_⟩) hHeld ?_ ?_
 rotate_left
 ·intro w' s0
  have hc2:w'.cell? ⟨g,2,none⟩ = some (.int .u32 (fill_ (cutL (L) kn)).token):=(blk_cell s0 2).trans rfl
  clear s0
  go_simp
  with_reducible rfl
 rotate_left
 ·simp only [Act.put,sA,sZ,sS]
  rfl
 refine pure_ (i:=5) (N:=some 193) (v:=?_) (a':=?_) M0m rfl rfl (by kernel_rfl) (fun _ _ _ h => h) (Or.inl ⟨by rfl,?_⟩) ?_ ?_
 rotate_left
 ·intro w'
  go_simp
  with_reducible rfl
 rotate_left
 ·simp only [Act.put,sA,sZ,sS]
  rfl
 refine pure_ (i:=6) (N:=some 194) (v:=?_) (a':=?_) M0n rfl rfl (by kernel_rfl) (fun _ _ _ h => h) (Or.inl ⟨by rfl,?_⟩) ?_ ?_
 rotate_left
 ·intro w'
  go_simp
  with_reducible rfl
 rotate_left
 ·simp only [Act.put,sA,sZ,sS]
  rfl
 refine pure_ (i:=7) (N:=some 195) (v:=?_) (a':=?_) M0o rfl rfl (by kernel_rfl) (fun _ _ _ h => h) (Or.inl ⟨by rfl,?_⟩) ?_ ?_
 rotate_left
 ·intro w'
  go_simp
  with_reducible rfl
 rotate_left
 ·simp only [Act.put,sA,sZ,sS]
  rfl
 refine take_ (i:=8) (N:=some 196) (v:=?_) (a':=?_) M0p rfl rfl (by kernel_rfl) (fun _ _ _ h => h) (Or.inl ⟨by rfl,?_⟩) hHeld ?_ ?_
 rotate_left
 ·intro w' s0
  have hc3:w'.cell? ⟨g,3,none⟩ = some (.int .u32 (fill_ (cutL (L) kn)).boot):=(blk_cell s0 3).trans rfl
  clear s0
  go_simp
  with_reducible rfl
 rotate_left
 ·simp only [Act.put,sA,sZ,sS]
  rfl
 refine pure_ (i:=9) (N:=some 197) (v:=?_) (a':=?_) M0q rfl rfl (by kernel_rfl) (fun _ _ _ h => h) (Or.inl ⟨by rfl,?_⟩) ?_ ?_
 rotate_left
 ·intro w'
  go_simp
  with_reducible rfl
 rotate_left
 ·simp only [Act.put,sA,sZ,sS]
  rfl
 refine pure_ (i:=10) (N:=some 198) (v:=?_) (a':=?_) M0r rfl rfl (by kernel_rfl) (fun _ _ _ h => h) (Or.inl ⟨by rfl,?_⟩) ?_ ?_
 rotate_left
 ·intro w'
  go_simp
  with_reducible rfl
 rotate_left
 ·simp only [Act.put,sA,sZ,sS]
  rfl
 refine pure_ (i:=11) (N:=some 199) (v:=?_) (a':=?_) M0s rfl rfl (by kernel_rfl) (fun _ _ _ h => h) (Or.inl ⟨by rfl,?_⟩) ?_ ?_
 rotate_left
 ·intro w'
  go_simp
  with_reducible rfl
 rotate_left
 ·simp only [Act.put,sA,sZ,sS]
  rfl
 refine take_ (i:=12) (N:=some 200) (v:=?_) (a':=?_) M0t rfl rfl (by kernel_rfl) (fun _ _ _ h => h) (Or.inl ⟨by rfl,?_⟩) hHeld ?_ ?_
 rotate_left
 ·intro w' s0
  have hc4:w'.cell? ⟨g,4,none⟩ = some (.int .u32 (fill_ (cutL (L) kn)).yours):=(blk_cell s0 4).trans rfl
  clear s0
  go_simp
  with_reducible rfl
 rotate_left
 ·simp only [Act.put,sA,sZ,sS]
  rfl
 refine pure_ (i:=13) (N:=some 201) (v:=?_) (a':=?_) M0u rfl rfl (by kernel_rfl) (fun _ _ _ h => h) (Or.inl ⟨by rfl,?_⟩) ?_ ?_
 rotate_left
 ·intro w'
  go_simp
  with_reducible rfl
 rotate_left
 ·simp only [Act.put,sA,sZ,sS]
  rfl
 refine pure_ (i:=14) (N:=some 202) (v:=?_) (a':=?_) M0v rfl rfl (by kernel_rfl) (fun _ _ _ h => h) (Or.inl ⟨by rfl,?_⟩) ?_ ?_
 rotate_left
 ·intro w'
  go_simp
  with_reducible rfl
 rotate_left
 ·simp only [Act.put,sA,sZ,sS]
  rfl
 refine pure_ (i:=15) (N:=some 203) (v:=?_) (a':=?_) M0w rfl rfl (by kernel_rfl) (fun _ _ _ h => h) (Or.inl ⟨by rfl,?_⟩) ?_ ?_
 rotate_left
 ·intro w'
  go_simp
  with_reducible rfl
 rotate_left
 ·simp only [Act.put,sA,sZ,sS]
  rfl
 refine take_ (i:=16) (N:=some 204) (v:=?_) (a':=?_) M0x rfl rfl (by kernel_rfl) (fun _ _ _ h => h) (Or.inl ⟨by rfl,?_⟩) hHeld ?_ ?_
 rotate_left
 ·intro w' s0
  have hc9:w'.cell? ⟨g,9,none⟩ = some (.int .u32 (fill_ (cutL (L) kn)).expected):=(blk_cell s0 9).trans rfl
  clear s0
  go_simp
  with_reducible rfl
 rotate_left
 ·simp only [Act.put,sA,sZ,sS]
  rfl
 refine pure_ (i:=17) (N:=some 205) (v:=?_) (a':=?_) M0y rfl rfl (by kernel_rfl) (fun _ _ _ h => h) (Or.inl ⟨by rfl,?_⟩) ?_ ?_
 rotate_left
 ·intro w'
  have hu27:=Try.underlying27
  go_simp
  rfl
 rotate_left
 ·simp only [Act.put,sA,sZ,sS]
  rfl
 refine last_ (i:=18) (N:=some 206) M0z rfl rfl (by kernel_rfl) (by decide) (fun K hK => ?_)
 refine goes_ Try.func80 (by kernel_rfl) rfl #[.pointer (some ⟨g,0,none⟩),.agg #[.int .i64 3,.int .u32 (fill_ (cutL (L) kn)).token,.int .u32 (fill_ (cutL (L) kn)).boot,.int .u32 (fill_ (cutL (L) kn)).yours,.int .u32 0,.int .u32 (fill_ (cutL (L) kn)).expected,.int .u32 0,.int .u32 0,.complex .f64 0 0,.slice none 0 0]] (by rfl) rfl rfl (by (try simp only [List.map_toArray,List.map_cons,List.map_nil]); first | done | rfl) ?_
 refine HC9.out.mono ?_
 rintro e w_K9 ⟨rfl,hE⟩
 obtain ⟨oko_K9,o_K9,hF⟩:=TS.emits KY8.out hB hE
 have K9:=Lib.hid hF
 clear hE hF
 refine ⟨_,rfl,?_⟩
 refine hK.out _ _ ?_
 clear hK K
 refine done_ (by kernel_rfl) ?_
 go_wp2_with fail
 refine wp_label ?_
 go_wp2_with (first | ((with_reducible refine gate_dst (N:=207) rfl ?_); (refine wpList_load_row rfl 56 (.tmp 6) rfl (w.heap.size + 1) (by rfl) 56 _ (0,0) _ (by first | exact K9.out.tb | exact (K9.out.drewN hB _).tb) Try.underlying56 rfl (by kernel_rfl) ?_)) | ((with_reducible refine gate_ (.store 56 (.tmp 6) (.tmp 207)) rfl ?_); (refine store_row_F rfl rfl 56 (.tmp 6) (.tmp 207) rfl (w.heap.size + 1) _ rfl rfl 56 _ (by first | exact K9.out.tb | exact (K9.out.drewN hB _).tb) (by kernel_rfl) rfl (by kernel_rfl) ?_); (intro w_K10 hb9 hat9); (have hF:=TS.setT (by first | exact K9.out | exact K9.out.drewN hB _ | exact K9.out.drew hB) hB hat9 hb9 (by first | exact K9.out.brow | exact (K9.out.drewN hB _).brow) (by first | exact K9.out.okb | exact (K9.out.drewN hB _).okb)); (have K10:=Lib.hid hF); (clear hF hb9 hat9)))
 refine Jump.ret ?_
 refine bodyPost_ret ?_ rfl (K10.out.ends)
 exact results_cell2 Try.results34 _ _ rfl rfl (run_loadVar_row (P:=Try.prog) _ (w.heap.size + 1) 56 56 _ (0,0) _ K10.out.tb Try.underlying56 rfl (by kernel_rfl))
set_option maxRecDepth 100000 in
set_option maxHeartbeats 4000000 in
theorem take_up10z {w:World} {B g:Nat} {okq oko S:Nat → Prop} {L:Lk} {q o:Value} (h:At w B okq oko g L q o) (hok:L.Ok) (hS:∀ k,holds okq oko g k → S k) (hB:B ≤ w.heap.size) (boot:Int) (p:Pkt) (Ab:Option Addr) (cb:Nat)
  (hb0:boot ≠ 0) (hbr:0 ≤ boot ∧ boot < 4294967296) (hpr:p.Rng) (hck:checkP p.kind p.mine p.boot p.yours p.seq p.ack p.stamp p.echo p.zr p.zi p.body.length = 0)  (hph:L.phase = 2) (hag:ageF L boot p.mine = 0) (hmn:meantF L p = true) (hpl:p.body.length ≤ 1000) {okp:Nat → Prop} (hR:(Kd.int .u8).R 5 w B okp (.slice Ab p.body.length cb) p.body) (hkp:∀ k,okp k → ¬ S k) (kn:Nat) (hkk:IntKind.u32.wrap (p.ack - L.base) = kn) (hkd:p.kind = 2) (hsq:¬ p.seq = L.expected) (h1k:kn = 0) :
  Calls Try.prog 34 #[.pointer (some ⟨g,0,none⟩),.int .u32 boot,.agg #[.int .i64 p.kind,.int .u32 p.mine,.int .u32 p.boot,.int .u32 p.yours,.int .u32 p.seq,.int .u32 p.ack,.int .u32 p.stamp,.int .u32 p.echo,.complex .f64 p.zr p.zi,.slice Ab p.body.length cb]] w fun e w' => Took w B S g (emit_ (L) (ackP (L))) true false false [] e w':=by
 have HG0:=Lib.hid (show (((w.alloc (.cells #[.int .i64 p.kind,.int .u32 p.mine,.int .u32 p.boot,.int .u32 p.yours,.int .u32 p.seq,.int .u32 p.ack,.int .u32 p.stamp,.int .u32 p.echo,.complex .f64 p.zr p.zi,.slice Ab p.body.length cb] 27)).alloc (.cells #[.bool false,.bool false,.bool false,.slice none 0 0] 56))).heap[w.heap.size]? = some (.cells #[.int .i64 p.kind,.int .u32 p.mine,.int .u32 p.boot,.int .u32 p.yours,.int .u32 p.seq,.int .u32 p.ack,.int .u32 p.stamp,.int .u32 p.echo,.complex .f64 p.zr p.zi,.slice Ab p.body.length cb] 27 (0,0)) from (Below.heap_alloc _ _ _ (by simp)).trans (heap_alloc_new w _))
 have H:=Lib.hid h
 have OK:=Lib.hid hok
 have HS:=Lib.hid hS
 have HPR:=Lib.hid hpr
 have HCK:=Lib.hid hck
 have hbz:(boot == 0) = false:=by simp [hb0]
 have HPH:=Lib.hid hph
 clear hph
 have HAG:=Lib.hid hag
 clear hag
 have HKD:=Lib.hid hkd
 clear hkd
 clear hbr
 have HMN:=Lib.hid hmn
 clear hmn
 have HRP:=Lib.hid hR
 have HKP:=Lib.hid hkp
 have HPL:=Lib.hid hpl
 clear hR hkp hpl
 have HKK:=Lib.hid hkk
 clear hkk
 have hlb:=OK.out.sent
 have hqb:=OK.out.queue
 have hd6:(p.seq == L.expected) = false:=by simp [hsq]
 clear hsq
 have hd7:decide ((kn:Int) ≥ 1) = false:=by simp; omega
 clear h1k
 clear h hok hS hpr hck hb0
 go_enter Try.func34,Try.ntmps34
 go_wp2_with fail
 refine wp_scope_hid 3 (fun C HC => ?_)
 go_wp2_with (first | ((with_reducible refine gate_dst (N:=17) rfl ?_); (refine wpList_load_row rfl 27 (.tmp 5) rfl w.heap.size (by rfl) 27 #[.int .i64 p.kind,.int .u32 p.mine,.int .u32 p.boot,.int .u32 p.yours,.int .u32 p.seq,.int .u32 p.ack,.int .u32 p.stamp,.int .u32 p.echo,.complex .f64 p.zr p.zi,.slice Ab p.body.length cb] (0,0) _ HG0.out Try.underlying27 rfl (by kernel_rfl) ?_)) | (go_at_call 20; (refine (check_any _ _ _ _ _ _ _ _ _ _ _ _ _ _ HPR.out.zr HPR.out.zi).mono ?_); (rintro e w_K0 ⟨rfl,hb⟩); (rw [HCK.out]); (have K0:=Lib.hid (TS.start (pc:=#[.int .i64 p.kind,.int .u32 p.mine,.int .u32 p.boot,.int .u32 p.yours,.int .u32 p.seq,.int .u32 p.ack,.int .u32 p.stamp,.int .u32 p.echo,.complex .f64 p.zr p.zi,.slice Ab p.body.length cb]) H.out HS.out hB (hb.mono (by simp)))); (clear hb); (have hl1:w_K0.cell? ⟨g,1,none⟩ = some (.int .i64 2):=(blk_cell K0.out.at_.blk 1).trans (congrArg (fun x => some (Value.int .i64 x)) HPH.out)); (have hp0:w_K0.cell? ⟨w.heap.size,0,none⟩ = some (.int .i64 2):=(blk_cell K0.out.pb 0).trans (congrArg (fun x => some (Value.int .i64 x)) HKD.out)); (have hp1:w_K0.cell? ⟨w.heap.size,1,none⟩ = some (.int .u32 p.mine):=(blk_cell K0.out.pb 1).trans rfl)) | (go_at_call 76; (refine (age_of K0.out.at_ boot p.mine).mono ?_); (rintro e w1 ⟨rfl,rfl⟩); (rw [HAG.out])) | ((with_reducible refine gate_dst (N:=59) rfl ?_); (refine gate_guard (by rfl) ?_); (refine wpList_load_row rfl 27 (.tmp 5) rfl w.heap.size (by rfl) 27 _ (0,0) _ (by first | exact K0.out.pb | exact (K0.out.drewN hB _).pb) Try.underlying27 rfl (by kernel_rfl) ?_)) | (go_at_call 77; (refine (meant_of K0.out.at_ p (.slice Ab p.body.length cb)).mono ?_); (rintro e w_K1 ⟨rfl,hb⟩); (have hme:meantF (L) p = true:=HMN.out); (rw [hme]); (clear hme); (have K1:=Lib.hid (K0.out.sub hB hb)); (clear hb); (clear hl1 hp0 hp1)) | ((with_reducible refine gate_ (.store 4 (.tmp 62) (.const (.bool true))) rfl ?_); (refine store_F (fun wz => TS w B S g #[.int .i64 p.kind,.int .u32 p.mine,.int .u32 p.boot,.int .u32 p.yours,.int .u32 p.seq,.int .u32 p.ack,.int .u32 p.stamp,.int .u32 p.echo,.complex .f64 p.zr p.zi,.slice Ab p.body.length cb] okq oko (fun _ => False) (L) q o true false false (.slice none 0 0) [] wz) rfl rfl ⟨_,(by have hz1:World.cell? w_K1 ⟨w.heap.size + 1,0,none⟩ = some _:=(blk_cell K1.out.tb 0).trans rfl; have hz2:=blk_frozen K1.out.tb 0; first | (go_simp; done) | (go_simp; rfl)),TS.setT1 K1.out hB 0 _ rfl⟩ (fun w_K2 hF => ?_)); (have K2:=Lib.hid hF); (clear hF); (have hl9:w_K2.cell? ⟨g,9,none⟩ = some (.int .u32 L.expected):=(blk_cell K2.out.at_.blk 9).trans rfl); (have hp0:w_K2.cell? ⟨w.heap.size,0,none⟩ = some (.int .i64 2):=(blk_cell K2.out.pb 0).trans (congrArg (fun x => some (Value.int .i64 x)) HKD.out)); (have hp4:w_K2.cell? ⟨w.heap.size,4,none⟩ = some (.int .u32 p.seq):=(blk_cell K2.out.pb 4).trans rfl)))
 refine wp_goto ?_
 refine Jump.goto HC.out rfl ?_
 go_wp2_with fail
 go_quiet (fail)
 rename Nat => nqq1
 clear hl9 hp0 hp4
 have hl8:w_K2.cell? ⟨g,8,none⟩ = some (.int .u32 L.base):=(blk_cell K2.out.at_.blk 8).trans rfl
 have hp5:w_K2.cell? ⟨w.heap.size,5,none⟩ = some (.int .u32 p.ack):=(blk_cell K2.out.pb 5).trans rfl
 have hp0:w_K2.cell? ⟨w.heap.size,0,none⟩ = some (.int .i64 2):=(blk_cell K2.out.pb 0).trans (congrArg (fun x => some (Value.int .i64 x)) HKD.out)
 go_wp2_with fail
 go_quiet ((go_at_call 79; refine (ahead_of _ _ _).mono fun _ _ hq => ⟨hq.1.trans (congrArg (fun x => Ending.returned (.int .u32 x)) HKK.out),_,hq.2.symm⟩))
 rename Nat => nqq2
 go_wp2_with fail
 have hSS:(w_K2.drewN (nqq1 + nqq2)).drew.heap[g]? = some (.cells (row (L) q o) 131 (0,0)):=(K2.out.drewN hB (nqq1 + nqq2)).at_.blk
 have hts:=(K2.out.drewN hB (nqq1 + nqq2)).drew hB
 clear hl8 hp5 hp0
 refine start_ (n:=19) (S:=fun w' => w'.heap[g]? = some (.cells (row (L) q o) 131 (0,0))) (ds:=[18]) M0g (by kernel_rfl) rfl rfl (hSS) (fun hHeld => ?_)
 generalize (w_K2.drewN (nqq1 + nqq2)).drew = w_Y3 at hts hHeld ⊢
 have KY3:=Lib.hid hts
 clear hts hSS
 have HC9:=Lib.hid (emit_of (⟨3,(L).token,(L).boot,(L).yours,0,(L).expected,0,0,0,0,[]⟩:Pkt) (.slice none 0 0) KY3.out.at_ (OK.out) (Nat.le_trans hB KY3.out.kept.1) (okp:=fun _ => False) (pkt_M.2 ⟨_,rfl,Kd.R_nil _ _ _ _ _⟩) (fun _ hk => hk.elim))
 refine pure_ (i:=0) (N:=some 188) (v:=?_) (a':=?_) M0h rfl rfl (by kernel_rfl) (fun _ _ _ h => h) (Or.inl ⟨by rfl,?_⟩) ?_ ?_
 rotate_left
 ·intro w'
  go_simp
  with_reducible rfl
 rotate_left
 ·simp only [Act.put,sA,sZ,sS]
  rfl
 refine pure_ (i:=1) (N:=some 189) (v:=?_) (a':=?_) M0i rfl rfl (by kernel_rfl) (fun _ _ _ h => h) (Or.inl ⟨by rfl,?_⟩) ?_ ?_
 rotate_left
 ·intro w'
  go_simp
  with_reducible rfl
 rotate_left
 ·simp only [Act.put,sA,sZ,sS]
  rfl
 refine pure_ (i:=2) (N:=some 190) (v:=?_) (a':=?_) M0j rfl rfl (by kernel_rfl) (fun _ _ _ h => h) (Or.inl ⟨by rfl,?_⟩) ?_ ?_
 rotate_left
 ·intro w'
  go_simp
  with_reducible rfl
 rotate_left
 ·simp only [Act.put,sA,sZ,sS]
  rfl
 refine pure_ (i:=3) (N:=some 191) (v:=?_) (a':=?_) M0k rfl rfl (by kernel_rfl) (fun _ _ _ h => h) (Or.inl ⟨by rfl,?_⟩) ?_ ?_
 rotate_left
 ·intro w'
  go_simp
  with_reducible rfl
 rotate_left
 ·simp only [Act.put,sA,sZ,sS]
  rfl
 refine take_ (i:=4) (N:=some 192) (v:=?_) (a':=?_) M0l rfl rfl (by kernel_rfl) (fun _ _ _ h => h) (Or.inl ⟨by rfl,?_⟩) hHeld ?_ ?_
 rotate_left
 ·intro w' s0
  have hc2:w'.cell? ⟨g,2,none⟩ = some (.int .u32 (L).token):=(blk_cell s0 2).trans rfl
  clear s0
  go_simp
  with_reducible rfl
 rotate_left
 ·simp only [Act.put,sA,sZ,sS]
  rfl
 refine pure_ (i:=5) (N:=some 193) (v:=?_) (a':=?_) M0m rfl rfl (by kernel_rfl) (fun _ _ _ h => h) (Or.inl ⟨by rfl,?_⟩) ?_ ?_
 rotate_left
 ·intro w'
  go_simp
  with_reducible rfl
 rotate_left
 ·simp only [Act.put,sA,sZ,sS]
  rfl
 refine pure_ (i:=6) (N:=some 194) (v:=?_) (a':=?_) M0n rfl rfl (by kernel_rfl) (fun _ _ _ h => h) (Or.inl ⟨by rfl,?_⟩) ?_ ?_
 rotate_left
 ·intro w'
  go_simp
  with_reducible rfl
 rotate_left
 ·simp only [Act.put,sA,sZ,sS]
  rfl
 refine pure_ (i:=7) (N:=some 195) (v:=?_) (a':=?_) M0o rfl rfl (by kernel_rfl) (fun _ _ _ h => h) (Or.inl ⟨by rfl,?_⟩) ?_ ?_
 rotate_left
 ·intro w'
  go_simp
  with_reducible rfl
 rotate_left
 ·simp only [Act.put,sA,sZ,sS]
  rfl
 refine take_ (i:=8) (N:=some 196) (v:=?_) (a':=?_) M0p rfl rfl (by kernel_rfl) (fun _ _ _ h => h) (Or.inl ⟨by rfl,?_⟩) hHeld ?_ ?_
 rotate_left
 ·intro w' s0
  have hc3:w'.cell? ⟨g,3,none⟩ = some (.int .u32 (L).boot):=(blk_cell s0 3).trans rfl
  clear s0
  go_simp
  with_reducible rfl
 rotate_left
 ·simp only [Act.put,sA,sZ,sS]
  rfl
 refine pure_ (i:=9) (N:=some 197) (v:=?_) (a':=?_) M0q rfl rfl (by kernel_rfl) (fun _ _ _ h => h) (Or.inl ⟨by rfl,?_⟩) ?_ ?_
 rotate_left
 ·intro w'
  go_simp
  with_reducible rfl
 rotate_left
 ·simp only [Act.put,sA,sZ,sS]
  rfl
 refine pure_ (i:=10) (N:=some 198) (v:=?_) (a':=?_) M0r rfl rfl (by kernel_rfl) (fun _ _ _ h => h) (Or.inl ⟨by rfl,?_⟩) ?_ ?_
 rotate_left
 ·intro w'
  go_simp
  with_reducible rfl
 rotate_left
 ·simp only [Act.put,sA,sZ,sS]
  rfl
 refine pure_ (i:=11) (N:=some 199) (v:=?_) (a':=?_) M0s rfl rfl (by kernel_rfl) (fun _ _ _ h => h) (Or.inl ⟨by rfl,?_⟩) ?_ ?_
 rotate_left
 ·intro w'
  go_simp
  with_reducible rfl
 rotate_left
 ·simp only [Act.put,sA,sZ,sS]
  rfl
 refine take_ (i:=12) (N:=some 200) (v:=?_) (a':=?_) M0t rfl rfl (by kernel_rfl) (fun _ _ _ h => h) (Or.inl ⟨by rfl,?_⟩) hHeld ?_ ?_
 rotate_left
 ·intro w' s0
  have hc4:w'.cell? ⟨g,4,none⟩ = some (.int .u32 (L).yours):=(blk_cell s0 4).trans rfl
  clear s0
  go_simp
  with_reducible rfl
 rotate_left
 ·simp only [Act.put,sA,sZ,sS]
  rfl
 refine pure_ (i:=13) (N:=some 201) (v:=?_) (a':=?_) M0u rfl rfl (by kernel_rfl) (fun _ _ _ h => h) (Or.inl ⟨by rfl,?_⟩) ?_ ?_
 rotate_left
 ·intro w'
  go_simp
  with_reducible rfl
 rotate_left
 ·simp only [Act.put,sA,sZ,sS]
  rfl
 refine pure_ (i:=14) (N:=some 202) (v:=?_) (a':=?_) M0v rfl rfl (by kernel_rfl) (fun _ _ _ h => h) (Or.inl ⟨by rfl,?_⟩) ?_ ?_
 rotate_left
 ·intro w'
  go_simp
  with_reducible rfl
 rotate_left
 ·simp only [Act.put,sA,sZ,sS]
  rfl
 refine pure_ (i:=15) (N:=some 203) (v:=?_) (a':=?_) M0w rfl rfl (by kernel_rfl) (fun _ _ _ h => h) (Or.inl ⟨by rfl,?_⟩) ?_ ?_
 rotate_left
 ·intro w'
  go_simp
  with_reducible rfl
 rotate_left
 ·simp only [Act.put,sA,sZ,sS]
  rfl
 refine take_ (i:=16) (N:=some 204) (v:=?_) (a':=?_) M0x rfl rfl (by kernel_rfl) (fun _ _ _ h => h) (Or.inl ⟨by rfl,?_⟩) hHeld ?_ ?_
 rotate_left
 ·intro w' s0
  have hc9:w'.cell? ⟨g,9,none⟩ = some (.int .u32 (L).expected):=(blk_cell s0 9).trans rfl
  clear s0
  go_simp
  with_reducible rfl
 rotate_left
 ·simp only [Act.put,sA,sZ,sS]
  rfl
 refine pure_ (i:=17) (N:=some 205) (v:=?_) (a':=?_) M0y rfl rfl (by kernel_rfl) (fun _ _ _ h => h) (Or.inl ⟨by rfl,?_⟩) ?_ ?_
 rotate_left
 ·intro w'
  have hu27:=Try.underlying27
  go_simp
  rfl
 rotate_left
 ·simp only [Act.put,sA,sZ,sS]
  rfl
 refine last_ (i:=18) (N:=some 206) M0z rfl rfl (by kernel_rfl) (by decide) (fun K hK => ?_)
 refine goes_ Try.func80 (by kernel_rfl) rfl #[.pointer (some ⟨g,0,none⟩),.agg #[.int .i64 3,.int .u32 (L).token,.int .u32 (L).boot,.int .u32 (L).yours,.int .u32 0,.int .u32 (L).expected,.int .u32 0,.int .u32 0,.complex .f64 0 0,.slice none 0 0]] (by rfl) rfl rfl (by (try simp only [List.map_toArray,List.map_cons,List.map_nil]); first | done | rfl) ?_
 refine HC9.out.mono ?_
 rintro e w_K4 ⟨rfl,hE⟩
 obtain ⟨oko_K4,o_K4,hF⟩:=TS.emits KY3.out hB hE
 have K4:=Lib.hid hF
 clear hE hF
 refine ⟨_,rfl,?_⟩
 refine hK.out _ _ ?_
 clear hK K
 refine done_ (by kernel_rfl) ?_
 go_wp2_with fail
 refine wp_label ?_
 go_wp2_with (first | ((with_reducible refine gate_dst (N:=207) rfl ?_); (refine wpList_load_row rfl 56 (.tmp 6) rfl (w.heap.size + 1) (by rfl) 56 _ (0,0) _ (by first | exact K4.out.tb | exact (K4.out.drewN hB _).tb) Try.underlying56 rfl (by kernel_rfl) ?_)) | ((with_reducible refine gate_ (.store 56 (.tmp 6) (.tmp 207)) rfl ?_); (refine store_row_F rfl rfl 56 (.tmp 6) (.tmp 207) rfl (w.heap.size + 1) _ rfl rfl 56 _ (by first | exact K4.out.tb | exact (K4.out.drewN hB _).tb) (by kernel_rfl) rfl (by kernel_rfl) ?_); (intro w_K5 hb9 hat9); (have hF:=TS.setT (by first | exact K4.out | exact K4.out.drewN hB _ | exact K4.out.drew hB) hB hat9 hb9 (by first | exact K4.out.brow | exact (K4.out.drewN hB _).brow) (by first | exact K4.out.okb | exact (K4.out.drewN hB _).okb)); (have K5:=Lib.hid hF); (clear hF hb9 hat9)))
 refine Jump.ret ?_
 refine bodyPost_ret ?_ rfl (K5.out.ends)
 exact results_cell2 Try.results34 _ _ rfl rfl (run_loadVar_row (P:=Try.prog) _ (w.heap.size + 1) 56 56 _ (0,0) _ K5.out.tb Try.underlying56 rfl (by kernel_rfl))
set_option maxRecDepth 100000 in
set_option maxHeartbeats 4000000 in
theorem take_up10b {w:World} {B g:Nat} {okq oko S:Nat → Prop} {L:Lk} {q o:Value} (h:At w B okq oko g L q o) (hok:L.Ok) (hS:∀ k,holds okq oko g k → S k) (hB:B ≤ w.heap.size) (boot:Int) (p:Pkt) (Ab:Option Addr) (cb:Nat)
  (hb0:boot ≠ 0) (hbr:0 ≤ boot ∧ boot < 4294967296) (hpr:p.Rng) (hck:checkP p.kind p.mine p.boot p.yours p.seq p.ack p.stamp p.echo p.zr p.zi p.body.length = 0)  (hph:L.phase = 2) (hag:ageF L boot p.mine = 0) (hmn:meantF L p = true) (hpl:p.body.length ≤ 1000) {okp:Nat → Prop} (hR:(Kd.int .u8).R 5 w B okp (.slice Ab p.body.length cb) p.body) (hkp:∀ k,okp k → ¬ S k) (kn:Nat) (hkk:IntKind.u32.wrap (p.ack - L.base) = kn) (hkd:p.kind = 2) (hsq:¬ p.seq = L.expected) (h1k:1 ≤ kn) (hks:L.sent < (kn:Int)) :
  Calls Try.prog 34 #[.pointer (some ⟨g,0,none⟩),.int .u32 boot,.agg #[.int .i64 p.kind,.int .u32 p.mine,.int .u32 p.boot,.int .u32 p.yours,.int .u32 p.seq,.int .u32 p.ack,.int .u32 p.stamp,.int .u32 p.echo,.complex .f64 p.zr p.zi,.slice Ab p.body.length cb]] w fun e w' => Took w B S g (emit_ (L) (ackP (L))) true false false [] e w':=by
 have HG0:=Lib.hid (show (((w.alloc (.cells #[.int .i64 p.kind,.int .u32 p.mine,.int .u32 p.boot,.int .u32 p.yours,.int .u32 p.seq,.int .u32 p.ack,.int .u32 p.stamp,.int .u32 p.echo,.complex .f64 p.zr p.zi,.slice Ab p.body.length cb] 27)).alloc (.cells #[.bool false,.bool false,.bool false,.slice none 0 0] 56))).heap[w.heap.size]? = some (.cells #[.int .i64 p.kind,.int .u32 p.mine,.int .u32 p.boot,.int .u32 p.yours,.int .u32 p.seq,.int .u32 p.ack,.int .u32 p.stamp,.int .u32 p.echo,.complex .f64 p.zr p.zi,.slice Ab p.body.length cb] 27 (0,0)) from (Below.heap_alloc _ _ _ (by simp)).trans (heap_alloc_new w _))
 have H:=Lib.hid h
 have OK:=Lib.hid hok
 have HS:=Lib.hid hS
 have HPR:=Lib.hid hpr
 have HCK:=Lib.hid hck
 have hbz:(boot == 0) = false:=by simp [hb0]
 have HPH:=Lib.hid hph
 clear hph
 have HAG:=Lib.hid hag
 clear hag
 have HKD:=Lib.hid hkd
 clear hkd
 clear hbr
 have HMN:=Lib.hid hmn
 clear hmn
 have HRP:=Lib.hid hR
 have HKP:=Lib.hid hkp
 have HPL:=Lib.hid hpl
 clear hR hkp hpl
 have HKK:=Lib.hid hkk
 clear hkk
 have hlb:=OK.out.sent
 have hqb:=OK.out.queue
 have hd6:(p.seq == L.expected) = false:=by simp [hsq]
 clear hsq
 have hd7:decide ((kn:Int) ≥ 1) = true:=by simp; omega
 have hd8:decide ((kn:Int) ≤ L.sent) = false:=by simp; omega
 have hw8:IntKind.u32.wrap L.sent = L.sent:=by rw [wrapU]; omega
 clear h1k
 have HKS:=Lib.hid hks
 clear hks
 clear h hok hS hpr hck hb0
 go_enter Try.func34,Try.ntmps34
 go_wp2_with fail
 refine wp_scope_hid 3 (fun C HC => ?_)
 go_wp2_with (first | ((with_reducible refine gate_dst (N:=17) rfl ?_); (refine wpList_load_row rfl 27 (.tmp 5) rfl w.heap.size (by rfl) 27 #[.int .i64 p.kind,.int .u32 p.mine,.int .u32 p.boot,.int .u32 p.yours,.int .u32 p.seq,.int .u32 p.ack,.int .u32 p.stamp,.int .u32 p.echo,.complex .f64 p.zr p.zi,.slice Ab p.body.length cb] (0,0) _ HG0.out Try.underlying27 rfl (by kernel_rfl) ?_)) | (go_at_call 20; (refine (check_any _ _ _ _ _ _ _ _ _ _ _ _ _ _ HPR.out.zr HPR.out.zi).mono ?_); (rintro e w_K0 ⟨rfl,hb⟩); (rw [HCK.out]); (have K0:=Lib.hid (TS.start (pc:=#[.int .i64 p.kind,.int .u32 p.mine,.int .u32 p.boot,.int .u32 p.yours,.int .u32 p.seq,.int .u32 p.ack,.int .u32 p.stamp,.int .u32 p.echo,.complex .f64 p.zr p.zi,.slice Ab p.body.length cb]) H.out HS.out hB (hb.mono (by simp)))); (clear hb); (have hl1:w_K0.cell? ⟨g,1,none⟩ = some (.int .i64 2):=(blk_cell K0.out.at_.blk 1).trans (congrArg (fun x => some (Value.int .i64 x)) HPH.out)); (have hp0:w_K0.cell? ⟨w.heap.size,0,none⟩ = some (.int .i64 2):=(blk_cell K0.out.pb 0).trans (congrArg (fun x => some (Value.int .i64 x)) HKD.out)); (have hp1:w_K0.cell? ⟨w.heap.size,1,none⟩ = some (.int .u32 p.mine):=(blk_cell K0.out.pb 1).trans rfl)) | (go_at_call 76; (refine (age_of K0.out.at_ boot p.mine).mono ?_); (rintro e w1 ⟨rfl,rfl⟩); (rw [HAG.out])) | ((with_reducible refine gate_dst (N:=59) rfl ?_); (refine gate_guard (by rfl) ?_); (refine wpList_load_row rfl 27 (.tmp 5) rfl w.heap.size (by rfl) 27 _ (0,0) _ (by first | exact K0.out.pb | exact (K0.out.drewN hB _).pb) Try.underlying27 rfl (by kernel_rfl) ?_)) | (go_at_call 77; (refine (meant_of K0.out.at_ p (.slice Ab p.body.length cb)).mono ?_); (rintro e w_K1 ⟨rfl,hb⟩); (have hme:meantF (L) p = true:=HMN.out); (rw [hme]); (clear hme); (have K1:=Lib.hid (K0.out.sub hB hb)); (clear hb); (clear hl1 hp0 hp1)) | ((with_reducible refine gate_ (.store 4 (.tmp 62) (.const (.bool true))) rfl ?_); (refine store_F (fun wz => TS w B S g #[.int .i64 p.kind,.int .u32 p.mine,.int .u32 p.boot,.int .u32 p.yours,.int .u32 p.seq,.int .u32 p.ack,.int .u32 p.stamp,.int .u32 p.echo,.complex .f64 p.zr p.zi,.slice Ab p.body.length cb] okq oko (fun _ => False) (L) q o true false false (.slice none 0 0) [] wz) rfl rfl ⟨_,(by have hz1:World.cell? w_K1 ⟨w.heap.size + 1,0,none⟩ = some _:=(blk_cell K1.out.tb 0).trans rfl; have hz2:=blk_frozen K1.out.tb 0; first | (go_simp; done) | (go_simp; rfl)),TS.setT1 K1.out hB 0 _ rfl⟩ (fun w_K2 hF => ?_)); (have K2:=Lib.hid hF); (clear hF); (have hl9:w_K2.cell? ⟨g,9,none⟩ = some (.int .u32 L.expected):=(blk_cell K2.out.at_.blk 9).trans rfl); (have hp0:w_K2.cell? ⟨w.heap.size,0,none⟩ = some (.int .i64 2):=(blk_cell K2.out.pb 0).trans (congrArg (fun x => some (Value.int .i64 x)) HKD.out)); (have hp4:w_K2.cell? ⟨w.heap.size,4,none⟩ = some (.int .u32 p.seq):=(blk_cell K2.out.pb 4).trans rfl)))
 refine wp_goto ?_
 refine Jump.goto HC.out rfl ?_
 go_wp2_with fail
 go_quiet (fail)
 rename Nat => nqq1
 clear hl9 hp0 hp4
 have hl8:w_K2.cell? ⟨g,8,none⟩ = some (.int .u32 L.base):=(blk_cell K2.out.at_.blk 8).trans rfl
 have hl7:w_K2.cell? ⟨g,7,none⟩ = some (.int .i64 L.sent):=(blk_cell K2.out.at_.blk 7).trans rfl
 have hp5:w_K2.cell? ⟨w.heap.size,5,none⟩ = some (.int .u32 p.ack):=(blk_cell K2.out.pb 5).trans rfl
 have hp0:w_K2.cell? ⟨w.heap.size,0,none⟩ = some (.int .i64 2):=(blk_cell K2.out.pb 0).trans (congrArg (fun x => some (Value.int .i64 x)) HKD.out)
 go_wp2_with fail
 go_quiet ((go_at_call 79; refine (ahead_of _ _ _).mono fun _ _ hq => ⟨hq.1.trans (congrArg (fun x => Ending.returned (.int .u32 x)) HKK.out),_,hq.2.symm⟩))
 rename Nat => nqq2
 go_wp2_with fail
 have hSS:(w_K2.drewN (nqq1 + nqq2)).drew.heap[g]? = some (.cells (row (L) q o) 131 (0,0)):=(K2.out.drewN hB (nqq1 + nqq2)).at_.blk
 have hts:=(K2.out.drewN hB (nqq1 + nqq2)).drew hB
 clear hl8 hl7 hp5 hp0
 refine start_ (n:=19) (S:=fun w' => w'.heap[g]? = some (.cells (row (L) q o) 131 (0,0))) (ds:=[18]) M0g (by kernel_rfl) rfl rfl (hSS) (fun hHeld => ?_)
 generalize (w_K2.drewN (nqq1 + nqq2)).drew = w_Y3 at hts hHeld ⊢
 have KY3:=Lib.hid hts
 clear hts hSS
 have HC9:=Lib.hid (emit_of (⟨3,(L).token,(L).boot,(L).yours,0,(L).expected,0,0,0,0,[]⟩:Pkt) (.slice none 0 0) KY3.out.at_ (OK.out) (Nat.le_trans hB KY3.out.kept.1) (okp:=fun _ => False) (pkt_M.2 ⟨_,rfl,Kd.R_nil _ _ _ _ _⟩) (fun _ hk => hk.elim))
 refine pure_ (i:=0) (N:=some 188) (v:=?_) (a':=?_) M0h rfl rfl (by kernel_rfl) (fun _ _ _ h => h) (Or.inl ⟨by rfl,?_⟩) ?_ ?_
 rotate_left
 ·intro w'
  go_simp
  with_reducible rfl
 rotate_left
 ·simp only [Act.put,sA,sZ,sS]
  rfl
 refine pure_ (i:=1) (N:=some 189) (v:=?_) (a':=?_) M0i rfl rfl (by kernel_rfl) (fun _ _ _ h => h) (Or.inl ⟨by rfl,?_⟩) ?_ ?_
 rotate_left
 ·intro w'
  go_simp
  with_reducible rfl
 rotate_left
 ·simp only [Act.put,sA,sZ,sS]
  rfl
 refine pure_ (i:=2) (N:=some 190) (v:=?_) (a':=?_) M0j rfl rfl (by kernel_rfl) (fun _ _ _ h => h) (Or.inl ⟨by rfl,?_⟩) ?_ ?_
 rotate_left
 ·intro w'
  go_simp
  with_reducible rfl
 rotate_left
 ·simp only [Act.put,sA,sZ,sS]
  rfl
 refine pure_ (i:=3) (N:=some 191) (v:=?_) (a':=?_) M0k rfl rfl (by kernel_rfl) (fun _ _ _ h => h) (Or.inl ⟨by rfl,?_⟩) ?_ ?_
 rotate_left
 ·intro w'
  go_simp
  with_reducible rfl
 rotate_left
 ·simp only [Act.put,sA,sZ,sS]
  rfl
 refine take_ (i:=4) (N:=some 192) (v:=?_) (a':=?_) M0l rfl rfl (by kernel_rfl) (fun _ _ _ h => h) (Or.inl ⟨by rfl,?_⟩) hHeld ?_ ?_
 rotate_left
 ·intro w' s0
  have hc2:w'.cell? ⟨g,2,none⟩ = some (.int .u32 (L).token):=(blk_cell s0 2).trans rfl
  clear s0
  go_simp
  with_reducible rfl
 rotate_left
 ·simp only [Act.put,sA,sZ,sS]
  rfl
 refine pure_ (i:=5) (N:=some 193) (v:=?_) (a':=?_) M0m rfl rfl (by kernel_rfl) (fun _ _ _ h => h) (Or.inl ⟨by rfl,?_⟩) ?_ ?_
 rotate_left
 ·intro w'
  go_simp
  with_reducible rfl
 rotate_left
 ·simp only [Act.put,sA,sZ,sS]
  rfl
 refine pure_ (i:=6) (N:=some 194) (v:=?_) (a':=?_) M0n rfl rfl (by kernel_rfl) (fun _ _ _ h => h) (Or.inl ⟨by rfl,?_⟩) ?_ ?_
 rotate_left
 ·intro w'
  go_simp
  with_reducible rfl
 rotate_left
 ·simp only [Act.put,sA,sZ,sS]
  rfl
 refine pure_ (i:=7) (N:=some 195) (v:=?_) (a':=?_) M0o rfl rfl (by kernel_rfl) (fun _ _ _ h => h) (Or.inl ⟨by rfl,?_⟩) ?_ ?_
 rotate_left
 ·intro w'
  go_simp
  with_reducible rfl
 rotate_left
 ·simp only [Act.put,sA,sZ,sS]
  rfl
 refine take_ (i:=8) (N:=some 196) (v:=?_) (a':=?_) M0p rfl rfl (by kernel_rfl) (fun _ _ _ h => h) (Or.inl ⟨by rfl,?_⟩) hHeld ?_ ?_
 rotate_left
 ·intro w' s0
  have hc3:w'.cell? ⟨g,3,none⟩ = some (.int .u32 (L).boot):=(blk_cell s0 3).trans rfl
  clear s0
  go_simp
  with_reducible rfl
 rotate_left
 ·simp only [Act.put,sA,sZ,sS]
  rfl
 refine pure_ (i:=9) (N:=some 197) (v:=?_) (a':=?_) M0q rfl rfl (by kernel_rfl) (fun _ _ _ h => h) (Or.inl ⟨by rfl,?_⟩) ?_ ?_
 rotate_left
 ·intro w'
  go_simp
  with_reducible rfl
 rotate_left
 ·simp only [Act.put,sA,sZ,sS]
  rfl
 refine pure_ (i:=10) (N:=some 198) (v:=?_) (a':=?_) M0r rfl rfl (by kernel_rfl) (fun _ _ _ h => h) (Or.inl ⟨by rfl,?_⟩) ?_ ?_
 rotate_left
 ·intro w'
  go_simp
  with_reducible rfl
 rotate_left
 ·simp only [Act.put,sA,sZ,sS]
  rfl
 refine pure_ (i:=11) (N:=some 199) (v:=?_) (a':=?_) M0s rfl rfl (by kernel_rfl) (fun _ _ _ h => h) (Or.inl ⟨by rfl,?_⟩) ?_ ?_
 rotate_left
 ·intro w'
  go_simp
  with_reducible rfl
 rotate_left
 ·simp only [Act.put,sA,sZ,sS]
  rfl
 refine take_ (i:=12) (N:=some 200) (v:=?_) (a':=?_) M0t rfl rfl (by kernel_rfl) (fun _ _ _ h => h) (Or.inl ⟨by rfl,?_⟩) hHeld ?_ ?_
 rotate_left
 ·intro w' s0
  have hc4:w'.cell? ⟨g,4,none⟩ = some (.int .u32 (L).yours):=(blk_cell s0 4).trans rfl
  clear s0
  go_simp
  with_reducible rfl
 rotate_left
 ·simp only [Act.put,sA,sZ,sS]
  rfl
 refine pure_ (i:=13) (N:=some 201) (v:=?_) (a':=?_) M0u rfl rfl (by kernel_rfl) (fun _ _ _ h => h) (Or.inl ⟨by rfl,?_⟩) ?_ ?_
 rotate_left
 ·intro w'
  go_simp
  with_reducible rfl
 rotate_left
 ·simp only [Act.put,sA,sZ,sS]
  rfl
 refine pure_ (i:=14) (N:=some 202) (v:=?_) (a':=?_) M0v rfl rfl (by kernel_rfl) (fun _ _ _ h => h) (Or.inl ⟨by rfl,?_⟩) ?_ ?_
 rotate_left
 ·intro w'
  go_simp
  with_reducible rfl
 rotate_left
 ·simp only [Act.put,sA,sZ,sS]
  rfl
 refine pure_ (i:=15) (N:=some 203) (v:=?_) (a':=?_) M0w rfl rfl (by kernel_rfl) (fun _ _ _ h => h) (Or.inl ⟨by rfl,?_⟩) ?_ ?_
 rotate_left
 ·intro w'
  go_simp
  with_reducible rfl
 rotate_left
 ·simp only [Act.put,sA,sZ,sS]
  rfl
 refine take_ (i:=16) (N:=some 204) (v:=?_) (a':=?_) M0x rfl rfl (by kernel_rfl) (fun _ _ _ h => h) (Or.inl ⟨by rfl,?_⟩) hHeld ?_ ?_
 rotate_left
 ·intro w' s0
  have hc9:w'.cell? ⟨g,9,none⟩ = some (.int .u32 (L).expected):=(blk_cell s0 9).trans rfl
  clear s0
  go_simp
  with_reducible rfl
 rotate_left
 ·simp only [Act.put,sA,sZ,sS]
  rfl
 refine pure_ (i:=17) (N:=some 205) (v:=?_) (a':=?_) M0y rfl rfl (by kernel_rfl) (fun _ _ _ h => h) (Or.inl ⟨by rfl,?_⟩) ?_ ?_
 rotate_left
 ·intro w'
  have hu27:=Try.underlying27
  go_simp
  rfl
 rotate_left
 ·simp only [Act.put,sA,sZ,sS]
  rfl
 refine last_ (i:=18) (N:=some 206) M0z rfl rfl (by kernel_rfl) (by decide) (fun K hK => ?_)
 refine goes_ Try.func80 (by kernel_rfl) rfl #[.pointer (some ⟨g,0,none⟩),.agg #[.int .i64 3,.int .u32 (L).token,.int .u32 (L).boot,.int .u32 (L).yours,.int .u32 0,.int .u32 (L).expected,.int .u32 0,.int .u32 0,.complex .f64 0 0,.slice none 0 0]] (by rfl) rfl rfl (by (try simp only [List.map_toArray,List.map_cons,List.map_nil]); first | done | rfl) ?_
 refine HC9.out.mono ?_
 rintro e w_K4 ⟨rfl,hE⟩
 obtain ⟨oko_K4,o_K4,hF⟩:=TS.emits KY3.out hB hE
 have K4:=Lib.hid hF
 clear hE hF
 refine ⟨_,rfl,?_⟩
 refine hK.out _ _ ?_
 clear hK K
 refine done_ (by kernel_rfl) ?_
 go_wp2_with fail
 refine wp_label ?_
 go_wp2_with (first | ((with_reducible refine gate_dst (N:=207) rfl ?_); (refine wpList_load_row rfl 56 (.tmp 6) rfl (w.heap.size + 1) (by rfl) 56 _ (0,0) _ (by first | exact K4.out.tb | exact (K4.out.drewN hB _).tb) Try.underlying56 rfl (by kernel_rfl) ?_)) | ((with_reducible refine gate_ (.store 56 (.tmp 6) (.tmp 207)) rfl ?_); (refine store_row_F rfl rfl 56 (.tmp 6) (.tmp 207) rfl (w.heap.size + 1) _ rfl rfl 56 _ (by first | exact K4.out.tb | exact (K4.out.drewN hB _).tb) (by kernel_rfl) rfl (by kernel_rfl) ?_); (intro w_K5 hb9 hat9); (have hF:=TS.setT (by first | exact K4.out | exact K4.out.drewN hB _ | exact K4.out.drew hB) hB hat9 hb9 (by first | exact K4.out.brow | exact (K4.out.drewN hB _).brow) (by first | exact K4.out.okb | exact (K4.out.drewN hB _).okb)); (have K5:=Lib.hid hF); (clear hF hb9 hat9)))
 refine Jump.ret ?_
 refine bodyPost_ret ?_ rfl (K5.out.ends)
 exact results_cell2 Try.results34 _ _ rfl rfl (run_loadVar_row (P:=Try.prog) _ (w.heap.size + 1) 56 56 _ (0,0) _ K5.out.tb Try.underlying56 rfl (by kernel_rfl))
end Go.Proofs.Ytnkkgofpifhoeaa.Lk
end
