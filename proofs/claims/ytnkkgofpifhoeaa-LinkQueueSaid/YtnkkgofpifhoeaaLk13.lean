/- Take, path by path. -/
import Derived.Test.YtnkkgofpifhoeaaLk12
import Derived.Test.YtnkkgofpifhoeaaJmp
import Derived.Test.YtnkkgofpifhoeaaWGuard
namespace Go.Proofs.Ytnkkgofpifhoeaa.Lk
open Go.RowKit Go.Proofs.Ytnkkgofpifhoeaa.Base Go.Proofs.Ytnkkgofpifhoeaa.Steps Go.Proofs.Ytnkkgofpifhoeaa.Pk Go.Proofs.Ytnkkgofpifhoeaa.Jmp Go.Proofs.YtnkkgofpifhoeaaW.PrintWords Go.Proofs.YtnkkgofpifhoeaaW.PrintLast
set_option linter.unusedSimpArgs false
set_option linter.unusedVariables false
set_option maxRecDepth 100000 in
set_option maxHeartbeats 4000000 in
theorem take_shut {w : World} {B g : Nat} {okq oko S : Nat → Prop} {L : Lk} {q o : Value} (h : At w B okq oko g L q o) (hok : L.Ok) (hS : ∀ k, holds okq oko g k → S k) (hB : B ≤ w.heap.size) (boot : Int) (p : Pkt) (Ab : Option Addr) (cb : Nat)
    (hb0 : boot ≠ 0) (hbr : 0 ≤ boot ∧ boot < 4294967296) (hpr : p.Rng) (hck : checkP p.kind p.mine p.boot p.yours p.seq p.ack p.stamp p.echo p.zr p.zi p.body.length = 0)  (hph : L.phase = 0) :
    Calls Try.prog 34 #[.pointer (some ⟨g, 0, none⟩), .int .u32 boot, .agg #[.int .i64 p.kind, .int .u32 p.mine, .int .u32 p.boot, .int .u32 p.yours, .int .u32 p.seq, .int .u32 p.ack, .int .u32 p.stamp, .int .u32 p.echo, .complex .f64 p.zr p.zi, .slice Ab p.body.length cb]] w fun e w' => Took w B S g (L) false false false [] e w' := by
  have HG0 := Lib.hid (show (((w.alloc (.cells #[.int .i64 p.kind, .int .u32 p.mine, .int .u32 p.boot, .int .u32 p.yours, .int .u32 p.seq, .int .u32 p.ack, .int .u32 p.stamp, .int .u32 p.echo, .complex .f64 p.zr p.zi, .slice Ab p.body.length cb] 27)).alloc (.cells #[.bool false, .bool false, .bool false, .slice none 0 0] 56))).heap[w.heap.size]? = some (.cells #[.int .i64 p.kind, .int .u32 p.mine, .int .u32 p.boot, .int .u32 p.yours, .int .u32 p.seq, .int .u32 p.ack, .int .u32 p.stamp, .int .u32 p.echo, .complex .f64 p.zr p.zi, .slice Ab p.body.length cb] 27 (0, 0)) from (Below.heap_alloc _ _ _ (by simp)).trans (heap_alloc_new w _))
  have H := Lib.hid h
  have OK := Lib.hid hok
  have HS := Lib.hid hS
  have HPR := Lib.hid hpr
  have HCK := Lib.hid hck
  have hbz : (boot == 0) = false := by simp [hb0]
  have HPH := Lib.hid hph
  clear hph
  clear h hok hS hpr hck hb0
  go_enter Try.func34, Try.ntmps34
  go_wp2_with fail
  refine wp_scope_hid 3 (fun C HC => ?_)
  go_wp2_with (first | ((with_reducible refine gate_dst (N := 17) rfl ?_); (refine wpList_load_row rfl 27 (.tmp 5) rfl w.heap.size (by rfl) 27 #[.int .i64 p.kind, .int .u32 p.mine, .int .u32 p.boot, .int .u32 p.yours, .int .u32 p.seq, .int .u32 p.ack, .int .u32 p.stamp, .int .u32 p.echo, .complex .f64 p.zr p.zi, .slice Ab p.body.length cb] (0, 0) _ HG0.out Try.underlying27 rfl (by kernel_rfl) ?_)) | (go_at_call 20; (refine (check_any _ _ _ _ _ _ _ _ _ _ _ _ _ _ HPR.out.zr HPR.out.zi).mono ?_); (rintro e w_K0 ⟨rfl, hb⟩); (rw [HCK.out]); (have K0 := Lib.hid (TS.start (pc := #[.int .i64 p.kind, .int .u32 p.mine, .int .u32 p.boot, .int .u32 p.yours, .int .u32 p.seq, .int .u32 p.ack, .int .u32 p.stamp, .int .u32 p.echo, .complex .f64 p.zr p.zi, .slice Ab p.body.length cb]) H.out HS.out hB (hb.mono (by simp)))); (clear hb); (have hl1 : w_K0.cell? ⟨g, 1, none⟩ = some (.int .i64 0) := (blk_cell K0.out.at_.blk 1).trans (congrArg (fun x => some (Value.int .i64 x)) HPH.out)); (have hp0 : w_K0.cell? ⟨w.heap.size, 0, none⟩ = some (.int .i64 p.kind) := (blk_cell K0.out.pb 0).trans rfl); (have hp1 : w_K0.cell? ⟨w.heap.size, 1, none⟩ = some (.int .u32 p.mine) := (blk_cell K0.out.pb 1).trans rfl)) | (go_at_call 76; (refine (age_of K0.out.at_ boot p.mine).mono ?_); (rintro e w1 ⟨rfl, rfl⟩); (skip)))
  refine wp_goto ?_
  refine Jump.goto HC.out rfl ?_
  go_wp2_with (first | ((with_reducible refine gate_dst (N := 207) rfl ?_); (refine wpList_load_row rfl 56 (.tmp 6) rfl (w.heap.size + 1) (by rfl) 56 _ (0, 0) _ (by first | exact K0.out.tb | exact (K0.out.drewN hB _).tb) Try.underlying56 rfl (by kernel_rfl) ?_)) | ((with_reducible refine gate_ (.store 56 (.tmp 6) (.tmp 207)) rfl ?_); (refine store_row_F rfl rfl 56 (.tmp 6) (.tmp 207) rfl (w.heap.size + 1) _ rfl rfl 56 _ (by first | exact K0.out.tb | exact (K0.out.drewN hB _).tb) (by kernel_rfl) rfl (by kernel_rfl) ?_); (intro w_K1 hb9 hat9); (have hF := TS.setT (by first | exact K0.out | exact K0.out.drewN hB _ | exact K0.out.drew hB) hB hat9 hb9 (by first | exact K0.out.brow | exact (K0.out.drewN hB _).brow) (by first | exact K0.out.okb | exact (K0.out.drewN hB _).okb)); (have K1 := Lib.hid hF); (clear hF hb9 hat9)))
  refine Jump.ret ?_
  refine bodyPost_ret ?_ rfl (K1.out.ends)
  exact results_cell2 Try.results34 _ _ rfl rfl (run_loadVar_row (P := Try.prog) _ (w.heap.size + 1) 56 56 _ (0, 0) _ K1.out.tb Try.underlying56 rfl (by kernel_rfl))
set_option maxRecDepth 100000 in
set_option maxHeartbeats 4000000 in
theorem take_old {w : World} {B g : Nat} {okq oko S : Nat → Prop} {L : Lk} {q o : Value} (h : At w B okq oko g L q o) (hok : L.Ok) (hS : ∀ k, holds okq oko g k → S k) (hB : B ≤ w.heap.size) (boot : Int) (p : Pkt) (Ab : Option Addr) (cb : Nat)
    (hb0 : boot ≠ 0) (hbr : 0 ≤ boot ∧ boot < 4294967296) (hpr : p.Rng) (hck : checkP p.kind p.mine p.boot p.yours p.seq p.ack p.stamp p.echo p.zr p.zi p.body.length = 0)  (hph : L.phase ≠ 0) (hag : ageF L boot p.mine = -1) :
    Calls Try.prog 34 #[.pointer (some ⟨g, 0, none⟩), .int .u32 boot, .agg #[.int .i64 p.kind, .int .u32 p.mine, .int .u32 p.boot, .int .u32 p.yours, .int .u32 p.seq, .int .u32 p.ack, .int .u32 p.stamp, .int .u32 p.echo, .complex .f64 p.zr p.zi, .slice Ab p.body.length cb]] w fun e w' => Took w B S g (L) false false false [] e w' := by
  have HG0 := Lib.hid (show (((w.alloc (.cells #[.int .i64 p.kind, .int .u32 p.mine, .int .u32 p.boot, .int .u32 p.yours, .int .u32 p.seq, .int .u32 p.ack, .int .u32 p.stamp, .int .u32 p.echo, .complex .f64 p.zr p.zi, .slice Ab p.body.length cb] 27)).alloc (.cells #[.bool false, .bool false, .bool false, .slice none 0 0] 56))).heap[w.heap.size]? = some (.cells #[.int .i64 p.kind, .int .u32 p.mine, .int .u32 p.boot, .int .u32 p.yours, .int .u32 p.seq, .int .u32 p.ack, .int .u32 p.stamp, .int .u32 p.echo, .complex .f64 p.zr p.zi, .slice Ab p.body.length cb] 27 (0, 0)) from (Below.heap_alloc _ _ _ (by simp)).trans (heap_alloc_new w _))
  have H := Lib.hid h
  have OK := Lib.hid hok
  have HS := Lib.hid hS
  have HPR := Lib.hid hpr
  have HCK := Lib.hid hck
  have hbz : (boot == 0) = false := by simp [hb0]
  have HAG := Lib.hid hag
  clear hag
  have hd1 : (L.phase == 0) = false := by simp [hph]
  clear hph
  clear h hok hS hpr hck hb0
  go_enter Try.func34, Try.ntmps34
  go_wp2_with fail
  refine wp_scope_hid 3 (fun C HC => ?_)
  go_wp2_with (first | ((with_reducible refine gate_dst (N := 17) rfl ?_); (refine wpList_load_row rfl 27 (.tmp 5) rfl w.heap.size (by rfl) 27 #[.int .i64 p.kind, .int .u32 p.mine, .int .u32 p.boot, .int .u32 p.yours, .int .u32 p.seq, .int .u32 p.ack, .int .u32 p.stamp, .int .u32 p.echo, .complex .f64 p.zr p.zi, .slice Ab p.body.length cb] (0, 0) _ HG0.out Try.underlying27 rfl (by kernel_rfl) ?_)) | (go_at_call 20; (refine (check_any _ _ _ _ _ _ _ _ _ _ _ _ _ _ HPR.out.zr HPR.out.zi).mono ?_); (rintro e w_K0 ⟨rfl, hb⟩); (rw [HCK.out]); (have K0 := Lib.hid (TS.start (pc := #[.int .i64 p.kind, .int .u32 p.mine, .int .u32 p.boot, .int .u32 p.yours, .int .u32 p.seq, .int .u32 p.ack, .int .u32 p.stamp, .int .u32 p.echo, .complex .f64 p.zr p.zi, .slice Ab p.body.length cb]) H.out HS.out hB (hb.mono (by simp)))); (clear hb); (have hl1 : w_K0.cell? ⟨g, 1, none⟩ = some (.int .i64 L.phase) := (blk_cell K0.out.at_.blk 1).trans rfl); (have hp0 : w_K0.cell? ⟨w.heap.size, 0, none⟩ = some (.int .i64 p.kind) := (blk_cell K0.out.pb 0).trans rfl); (have hp1 : w_K0.cell? ⟨w.heap.size, 1, none⟩ = some (.int .u32 p.mine) := (blk_cell K0.out.pb 1).trans rfl)) | (go_at_call 76; (refine (age_of K0.out.at_ boot p.mine).mono ?_); (rintro e w1 ⟨rfl, rfl⟩); (rw [HAG.out])))
  refine wp_goto ?_
  refine Jump.goto HC.out rfl ?_
  go_wp2_with (first | ((with_reducible refine gate_dst (N := 207) rfl ?_); (refine wpList_load_row rfl 56 (.tmp 6) rfl (w.heap.size + 1) (by rfl) 56 _ (0, 0) _ (by first | exact K0.out.tb | exact (K0.out.drewN hB _).tb) Try.underlying56 rfl (by kernel_rfl) ?_)) | ((with_reducible refine gate_ (.store 56 (.tmp 6) (.tmp 207)) rfl ?_); (refine store_row_F rfl rfl 56 (.tmp 6) (.tmp 207) rfl (w.heap.size + 1) _ rfl rfl 56 _ (by first | exact K0.out.tb | exact (K0.out.drewN hB _).tb) (by kernel_rfl) rfl (by kernel_rfl) ?_); (intro w_K1 hb9 hat9); (have hF := TS.setT (by first | exact K0.out | exact K0.out.drewN hB _ | exact K0.out.drew hB) hB hat9 hb9 (by first | exact K0.out.brow | exact (K0.out.drewN hB _).brow) (by first | exact K0.out.okb | exact (K0.out.drewN hB _).okb)); (have K1 := Lib.hid hF); (clear hF hb9 hat9)))
  refine Jump.ret ?_
  refine bodyPost_ret ?_ rfl (K1.out.ends)
  exact results_cell2 Try.results34 _ _ rfl rfl (run_loadVar_row (P := Try.prog) _ (w.heap.size + 1) 56 56 _ (0, 0) _ K1.out.tb Try.underlying56 rfl (by kernel_rfl))
set_option maxRecDepth 100000 in
set_option maxHeartbeats 4000000 in
theorem take_open1 {w : World} {B g : Nat} {okq oko S : Nat → Prop} {L : Lk} {q o : Value} (h : At w B okq oko g L q o) (hok : L.Ok) (hS : ∀ k, holds okq oko g k → S k) (hB : B ≤ w.heap.size) (boot : Int) (p : Pkt) (Ab : Option Addr) (cb : Nat)
    (hb0 : boot ≠ 0) (hbr : 0 ≤ boot ∧ boot < 4294967296) (hpr : p.Rng) (hck : checkP p.kind p.mine p.boot p.yours p.seq p.ack p.stamp p.echo p.zr p.zi p.body.length = 0)  (hph : L.phase = 1) (hag : 0 ≤ ageF L boot p.mine) (hkd : p.kind = 1) (hmn : meantF L p = true) :
    Calls Try.prog 34 #[.pointer (some ⟨g, 0, none⟩), .int .u32 boot, .agg #[.int .i64 p.kind, .int .u32 p.mine, .int .u32 p.boot, .int .u32 p.yours, .int .u32 p.seq, .int .u32 p.ack, .int .u32 p.stamp, .int .u32 p.echo, .complex .f64 p.zr p.zi, .slice Ab p.body.length cb]] w fun e w' => Took w B S g (emit_ ({ L with phase := 2, boot := boot, yours := p.mine, known := true }) (helloP ({ L with phase := 2, boot := boot, yours := p.mine, known := true }))) true true false [] e w' := by
  have HG0 := Lib.hid (show (((w.alloc (.cells #[.int .i64 p.kind, .int .u32 p.mine, .int .u32 p.boot, .int .u32 p.yours, .int .u32 p.seq, .int .u32 p.ack, .int .u32 p.stamp, .int .u32 p.echo, .complex .f64 p.zr p.zi, .slice Ab p.body.length cb] 27)).alloc (.cells #[.bool false, .bool false, .bool false, .slice none 0 0] 56))).heap[w.heap.size]? = some (.cells #[.int .i64 p.kind, .int .u32 p.mine, .int .u32 p.boot, .int .u32 p.yours, .int .u32 p.seq, .int .u32 p.ack, .int .u32 p.stamp, .int .u32 p.echo, .complex .f64 p.zr p.zi, .slice Ab p.body.length cb] 27 (0, 0)) from (Below.heap_alloc _ _ _ (by simp)).trans (heap_alloc_new w _))
  have H := Lib.hid h
  have OK := Lib.hid hok
  have HS := Lib.hid hS
  have HPR := Lib.hid hpr
  have HCK := Lib.hid hck
  have hbz : (boot == 0) = false := by simp [hb0]
  have HPH := Lib.hid hph
  clear hph
  have HKD := Lib.hid hkd
  clear hkd
  have hd2 : decide (ageF L boot p.mine < 0) = false := by simp; omega
  clear hag
  have HMN := Lib.hid hmn
  clear hmn
  have OKP := Lib.hid (peer_ok OK.out hbr HPR.out.mine true)
  have HBR := Lib.hid hbr
  clear hbr
  clear h hok hS hpr hck hb0
  go_enter Try.func34, Try.ntmps34
  go_wp2_with fail
  refine wp_scope_hid 3 (fun C HC => ?_)
  go_wp2_with (first | ((with_reducible refine gate_dst (N := 17) rfl ?_); (refine wpList_load_row rfl 27 (.tmp 5) rfl w.heap.size (by rfl) 27 #[.int .i64 p.kind, .int .u32 p.mine, .int .u32 p.boot, .int .u32 p.yours, .int .u32 p.seq, .int .u32 p.ack, .int .u32 p.stamp, .int .u32 p.echo, .complex .f64 p.zr p.zi, .slice Ab p.body.length cb] (0, 0) _ HG0.out Try.underlying27 rfl (by kernel_rfl) ?_)) | (go_at_call 20; (refine (check_any _ _ _ _ _ _ _ _ _ _ _ _ _ _ HPR.out.zr HPR.out.zi).mono ?_); (rintro e w_K0 ⟨rfl, hb⟩); (rw [HCK.out]); (have K0 := Lib.hid (TS.start (pc := #[.int .i64 p.kind, .int .u32 p.mine, .int .u32 p.boot, .int .u32 p.yours, .int .u32 p.seq, .int .u32 p.ack, .int .u32 p.stamp, .int .u32 p.echo, .complex .f64 p.zr p.zi, .slice Ab p.body.length cb]) H.out HS.out hB (hb.mono (by simp)))); (clear hb); (have hl1 : w_K0.cell? ⟨g, 1, none⟩ = some (.int .i64 1) := (blk_cell K0.out.at_.blk 1).trans (congrArg (fun x => some (Value.int .i64 x)) HPH.out)); (have hp0 : w_K0.cell? ⟨w.heap.size, 0, none⟩ = some (.int .i64 1) := (blk_cell K0.out.pb 0).trans (congrArg (fun x => some (Value.int .i64 x)) HKD.out)); (have hp1 : w_K0.cell? ⟨w.heap.size, 1, none⟩ = some (.int .u32 p.mine) := (blk_cell K0.out.pb 1).trans rfl)) | (go_at_call 76; (refine (age_of K0.out.at_ boot p.mine).mono ?_); (rintro e w1 ⟨rfl, rfl⟩); (skip)) | ((with_reducible refine gate_ (.store 4 (.tmp 40) (.const (.bool true))) rfl ?_); (refine store_F (fun wz => TS w B S g #[.int .i64 p.kind, .int .u32 p.mine, .int .u32 p.boot, .int .u32 p.yours, .int .u32 p.seq, .int .u32 p.ack, .int .u32 p.stamp, .int .u32 p.echo, .complex .f64 p.zr p.zi, .slice Ab p.body.length cb] okq oko (fun _ => False) (L) q o true false false (.slice none 0 0) [] wz) rfl rfl ⟨_, (by have hz1 : World.cell? w_K0 ⟨w.heap.size + 1, 0, none⟩ = some _ := (blk_cell K0.out.tb 0).trans rfl; have hz2 := blk_frozen K0.out.tb 0; first | (go_simp; done) | (go_simp; rfl)), TS.setT1 K0.out hB 0 _ rfl⟩ (fun w_K1 hF => ?_)); (have K1 := Lib.hid hF); (clear hF); (clear hl1 hp0 hp1); (have hl1 : w_K1.cell? ⟨g, 1, none⟩ = some (.int .i64 1) := (blk_cell K1.out.at_.blk 1).trans (congrArg (fun x => some (Value.int .i64 x)) HPH.out)); (have hp0 : w_K1.cell? ⟨w.heap.size, 0, none⟩ = some (.int .i64 1) := (blk_cell K1.out.pb 0).trans (congrArg (fun x => some (Value.int .i64 x)) HKD.out))))
  refine wp_goto ?_
  refine Jump.goto HC.out rfl ?_
  go_wp2_with fail
  have hSS : w_K1.drew.heap[w.heap.size]? = some (.cells #[.int .i64 p.kind, .int .u32 p.mine, .int .u32 p.boot, .int .u32 p.yours, .int .u32 p.seq, .int .u32 p.ack, .int .u32 p.stamp, .int .u32 p.echo, .complex .f64 p.zr p.zi, .slice Ab p.body.length cb] 27 (0, 0)) := K1.out.pb
  have hts := K1.out.drew hB
  clear hl1 hp0
  refine start_ (n := 15) (S := fun w' => w'.heap[w.heap.size]? = some (.cells #[.int .i64 p.kind, .int .u32 p.mine, .int .u32 p.boot, .int .u32 p.yours, .int .u32 p.seq, .int .u32 p.ack, .int .u32 p.stamp, .int .u32 p.echo, .complex .f64 p.zr p.zi, .slice Ab p.body.length cb] 27 (0, 0))) (ds := []) #[false, false, false, false, false, false, false, false, false, false, false, false, false, false, false] (by kernel_rfl) rfl rfl (hSS) (fun hHeld => ?_)
  generalize w_K1.drew = w_Y2 at hts hHeld ⊢
  have KY2 := Lib.hid hts
  clear hts hSS
  refine pure_ (i := 0) (N := some 63) (v := ?_) (a' := ?_) #[true, false, false, false, false, false, false, false, false, false, false, false, false, false, false] rfl rfl (by kernel_rfl) (fun _ _ _ h => h) (Or.inl ⟨by rfl, ?_⟩) ?_ ?_
  rotate_left
  · intro w'
    go_simp
    with_reducible rfl
  rotate_left
  · simp only [Act.put, List.setIfInBounds_toArray, List.set_cons_zero, List.set_cons_succ]
    rfl
  refine pure_ (i := 1) (N := some 64) (v := ?_) (a' := ?_) #[true, true, false, false, false, false, false, false, false, false, false, false, false, false, false] rfl rfl (by kernel_rfl) (fun _ _ _ h => h) (Or.inl ⟨by rfl, ?_⟩) ?_ ?_
  rotate_left
  · intro w'
    go_simp
    with_reducible rfl
  rotate_left
  · simp only [Act.put, List.setIfInBounds_toArray, List.set_cons_zero, List.set_cons_succ]
    rfl
  refine pure_ (i := 2) (N := some 65) (v := ?_) (a' := ?_) #[true, true, true, false, false, false, false, false, false, false, false, false, false, false, false] rfl rfl (by kernel_rfl) (fun _ _ _ h => h) (Or.inl ⟨by rfl, ?_⟩) ?_ ?_
  rotate_left
  · intro w'
    go_simp
    with_reducible rfl
  rotate_left
  · simp only [Act.put, List.setIfInBounds_toArray, List.set_cons_zero, List.set_cons_succ]
    rfl
  refine pure_ (i := 3) (N := some 66) (v := ?_) (a' := ?_) #[true, true, true, true, false, false, false, false, false, false, false, false, false, false, false] rfl rfl (by kernel_rfl) (fun _ _ _ h => h) (Or.inl ⟨by rfl, ?_⟩) ?_ ?_
  rotate_left
  · intro w'
    go_simp
    with_reducible rfl
  rotate_left
  · simp only [Act.put, List.setIfInBounds_toArray, List.set_cons_zero, List.set_cons_succ]
    rfl
  refine pure_ (i := 4) (N := some 67) (v := ?_) (a' := ?_) #[true, true, true, true, true, false, false, false, false, false, false, false, false, false, false] rfl rfl (by kernel_rfl) (fun _ _ _ h => h) (Or.inl ⟨by rfl, ?_⟩) ?_ ?_
  rotate_left
  · intro w'
    go_simp
    with_reducible rfl
  rotate_left
  · simp only [Act.put, List.setIfInBounds_toArray, List.set_cons_zero, List.set_cons_succ]
    rfl
  refine take_ (i := 5) (N := some 68) (v := ?_) (a' := ?_) #[true, true, true, true, true, true, false, false, false, false, false, false, false, false, false] rfl rfl (by kernel_rfl) (fun _ _ _ h => h) (Or.inl ⟨by rfl, ?_⟩) hHeld ?_ ?_
  rotate_left
  · intro w' s0
    have hp1 : w'.cell? ⟨w.heap.size, 1, none⟩ = some (.int .u32 p.mine) := (blk_cell s0 1).trans rfl
    clear s0
    go_simp
    with_reducible rfl
  rotate_left
  · simp only [Act.put, List.setIfInBounds_toArray, List.set_cons_zero, List.set_cons_succ]
    rfl
  refine pure_ (i := 6) (N := some 69) (v := ?_) (a' := ?_) #[true, true, true, true, true, true, true, false, false, false, false, false, false, false, false] rfl rfl (by kernel_rfl) (fun _ _ _ h => h) (Or.inl ⟨by rfl, ?_⟩) ?_ ?_
  rotate_left
  · intro w'
    go_simp
    with_reducible rfl
  rotate_left
  · simp only [Act.put, List.setIfInBounds_toArray, List.set_cons_zero, List.set_cons_succ]
    rfl
  refine pure_ (i := 7) (N := some 70) (v := ?_) (a' := ?_) #[true, true, true, true, true, true, true, true, false, false, false, false, false, false, false] rfl rfl (by kernel_rfl) (fun _ _ _ h => h) (Or.inl ⟨by rfl, ?_⟩) ?_ ?_
  rotate_left
  · intro w'
    go_simp
    with_reducible rfl
  rotate_left
  · simp only [Act.put, List.setIfInBounds_toArray, List.set_cons_zero, List.set_cons_succ]
    rfl
  refine one_ (i := 8) (N := none) #[true, true, true, true, true, true, true, true, true, false, false, false, false, false, false] rfl rfl (by kernel_rfl) (by decide) (fun K hK => ?_)
  have hz1 : w_Y2.cell? ⟨g, 3, none⟩ = some _ := (blk_cell KY2.out.at_.blk 3).trans rfl
  have hz2 := blk_frozen KY2.out.at_.blk 3
  refine skip_F (fun wz => TS w B S g #[.int .i64 p.kind, .int .u32 p.mine, .int .u32 p.boot, .int .u32 p.yours, .int .u32 p.seq, .int .u32 p.ack, .int .u32 p.stamp, .int .u32 p.echo, .complex .f64 p.zr p.zi, .slice Ab p.body.length cb] okq oko (fun _ => False) ({ L with boot := boot }) q o true false false (.slice none 0 0) [] wz) (by rfl) rfl ⟨_, by first | (go_simp; done) | (go_simp; rfl), TS.setL1 KY2.out hB 3 _ rfl rfl rfl⟩ (fun w_K3 hF => ?_)
  have K3 := Lib.hid hF
  clear hF hz1 hz2 hHeld
  refine hK.out _ _ K3.out.pb (fun hHeld => ?_)
  clear hK K
  refine pure_ (i := 9) (N := some 71) (v := ?_) (a' := ?_) #[true, true, true, true, true, true, true, true, true, true, false, false, false, false, false] rfl rfl (by kernel_rfl) (fun _ _ _ h => h) (Or.inl ⟨by rfl, ?_⟩) ?_ ?_
  rotate_left
  · intro w'
    go_simp
    with_reducible rfl
  rotate_left
  · simp only [Act.put, List.setIfInBounds_toArray, List.set_cons_zero, List.set_cons_succ]
    rfl
  refine pure_ (i := 10) (N := some 72) (v := ?_) (a' := ?_) #[true, true, true, true, true, true, true, true, true, true, true, false, false, false, false] rfl rfl (by kernel_rfl) (fun _ _ _ h => h) (Or.inl ⟨by rfl, ?_⟩) ?_ ?_
  rotate_left
  · intro w'
    go_simp
    with_reducible rfl
  rotate_left
  · simp only [Act.put, List.setIfInBounds_toArray, List.set_cons_zero, List.set_cons_succ]
    rfl
  refine one_ (i := 11) (N := none) #[true, true, true, true, true, true, true, true, true, true, true, true, false, false, false] rfl rfl (by kernel_rfl) (by decide) (fun K hK => ?_)
  have hz1 : w_K3.cell? ⟨g, 4, none⟩ = some _ := (blk_cell K3.out.at_.blk 4).trans rfl
  have hz2 := blk_frozen K3.out.at_.blk 4
  refine skip_F (fun wz => TS w B S g #[.int .i64 p.kind, .int .u32 p.mine, .int .u32 p.boot, .int .u32 p.yours, .int .u32 p.seq, .int .u32 p.ack, .int .u32 p.stamp, .int .u32 p.echo, .complex .f64 p.zr p.zi, .slice Ab p.body.length cb] okq oko (fun _ => False) ({ L with boot := boot, yours := p.mine }) q o true false false (.slice none 0 0) [] wz) (by rfl) rfl ⟨_, by first | (go_simp; done) | (go_simp; rfl), TS.setL1 K3.out hB 4 _ rfl rfl rfl⟩ (fun w_K4 hF => ?_)
  have K4 := Lib.hid hF
  clear hF hz1 hz2 hHeld
  refine hK.out _ _ K4.out.pb (fun hHeld => ?_)
  clear hK K
  refine pure_ (i := 12) (N := some 73) (v := ?_) (a' := ?_) #[true, true, true, true, true, true, true, true, true, true, true, true, true, false, false] rfl rfl (by kernel_rfl) (fun _ _ _ h => h) (Or.inl ⟨by rfl, ?_⟩) ?_ ?_
  rotate_left
  · intro w'
    go_simp
    with_reducible rfl
  rotate_left
  · simp only [Act.put, List.setIfInBounds_toArray, List.set_cons_zero, List.set_cons_succ]
    rfl
  refine pure_ (i := 13) (N := some 74) (v := ?_) (a' := ?_) #[true, true, true, true, true, true, true, true, true, true, true, true, true, true, false] rfl rfl (by kernel_rfl) (fun _ _ _ h => h) (Or.inl ⟨by rfl, ?_⟩) ?_ ?_
  rotate_left
  · intro w'
    go_simp
    with_reducible rfl
  rotate_left
  · simp only [Act.put, List.setIfInBounds_toArray, List.set_cons_zero, List.set_cons_succ]
    rfl
  refine one_ (i := 14) (N := none) #[true, true, true, true, true, true, true, true, true, true, true, true, true, true, true] rfl rfl (by kernel_rfl) (by decide) (fun K hK => ?_)
  have hz1 : w_K4.cell? ⟨g, 5, none⟩ = some _ := (blk_cell K4.out.at_.blk 5).trans rfl
  have hz2 := blk_frozen K4.out.at_.blk 5
  refine skip_F (fun wz => TS w B S g #[.int .i64 p.kind, .int .u32 p.mine, .int .u32 p.boot, .int .u32 p.yours, .int .u32 p.seq, .int .u32 p.ack, .int .u32 p.stamp, .int .u32 p.echo, .complex .f64 p.zr p.zi, .slice Ab p.body.length cb] okq oko (fun _ => False) ({ L with boot := boot, yours := p.mine, known := true }) q o true false false (.slice none 0 0) [] wz) (by rfl) rfl ⟨_, by first | (go_simp; done) | (go_simp; rfl), TS.setL1 K4.out hB 5 _ rfl rfl rfl⟩ (fun w_K5 hF => ?_)
  have K5 := Lib.hid hF
  clear hF hz1 hz2 hHeld
  refine hK.out _ _ K5.out.pb (fun hHeld => ?_)
  clear hK K
  refine done_ (by kernel_rfl) ?_
  clear hHeld
  go_wp2_with (first | ((with_reducible refine gate_dst (N := 76) rfl ?_); (refine wpList_load_row rfl 27 (.tmp 5) rfl w.heap.size (by rfl) 27 _ (0, 0) _ (by first | exact K5.out.pb | exact (K5.out.drewN hB _).pb) Try.underlying27 rfl (by kernel_rfl) ?_)) | (go_at_call 77; (refine (meant_of K5.out.at_ p (.slice Ab p.body.length cb)).mono ?_); (rintro e w_K6 ⟨rfl, hb⟩); (have hme : meantF ({ L with boot := boot, yours := p.mine, known := true }) p = true := HMN.out); (rw [hme]); (clear hme); (have K6 := Lib.hid (K5.out.sub hB hb)); (clear hb)) | ((with_reducible refine gate_ (.store 3 (.tmp 80) (.const (.int .i64 2))) rfl ?_); (refine store_F (fun wz => TS w B S g #[.int .i64 p.kind, .int .u32 p.mine, .int .u32 p.boot, .int .u32 p.yours, .int .u32 p.seq, .int .u32 p.ack, .int .u32 p.stamp, .int .u32 p.echo, .complex .f64 p.zr p.zi, .slice Ab p.body.length cb] okq oko (fun _ => False) ({ L with phase := 2, boot := boot, yours := p.mine, known := true }) q o true false false (.slice none 0 0) [] wz) rfl rfl ⟨_, (by have hz1 : World.cell? w_K6 ⟨g, 1, none⟩ = some _ := (blk_cell K6.out.at_.blk 1).trans rfl; have hz2 := blk_frozen K6.out.at_.blk 1; first | (go_simp; done) | (go_simp; rfl)), TS.setL1 K6.out hB 1 _ rfl rfl rfl⟩ (fun w_K7 hF => ?_)); (have K7 := Lib.hid hF); (clear hF)) | ((with_reducible refine gate_ (.store 4 (.tmp 81) (.const (.bool true))) rfl ?_); (refine store_F (fun wz => TS w B S g #[.int .i64 p.kind, .int .u32 p.mine, .int .u32 p.boot, .int .u32 p.yours, .int .u32 p.seq, .int .u32 p.ack, .int .u32 p.stamp, .int .u32 p.echo, .complex .f64 p.zr p.zi, .slice Ab p.body.length cb] okq oko (fun _ => False) ({ L with phase := 2, boot := boot, yours := p.mine, known := true }) q o true true false (.slice none 0 0) [] wz) rfl rfl ⟨_, (by have hz1 : World.cell? w_K7 ⟨w.heap.size + 1, 1, none⟩ = some _ := (blk_cell K7.out.tb 1).trans rfl; have hz2 := blk_frozen K7.out.tb 1; first | (go_simp; done) | (go_simp; rfl)), TS.setT1 K7.out hB 1 _ rfl⟩ (fun w_K8 hF => ?_)); (have K8 := Lib.hid hF); (clear hF)) | (go_at_call 73; (refine (hello_of K8.out.at_ (phase_ok OKP.out (by decide)) (Nat.le_trans hB K8.out.kept.1)).mono ?_); (rintro e w_K9 ⟨rfl, hE⟩); (obtain ⟨oko_K9, o_K9, hF⟩ := TS.emits K8.out hB hE); (clear hE); (have K9 := Lib.hid hF); (clear hF)))
  refine wp_goto ?_
  refine Jump.goto HC.out rfl ?_
  go_wp2_with (first | ((with_reducible refine gate_dst (N := 207) rfl ?_); (refine wpList_load_row rfl 56 (.tmp 6) rfl (w.heap.size + 1) (by rfl) 56 _ (0, 0) _ (by first | exact K9.out.tb | exact (K9.out.drewN hB _).tb) Try.underlying56 rfl (by kernel_rfl) ?_)) | ((with_reducible refine gate_ (.store 56 (.tmp 6) (.tmp 207)) rfl ?_); (refine store_row_F rfl rfl 56 (.tmp 6) (.tmp 207) rfl (w.heap.size + 1) _ rfl rfl 56 _ (by first | exact K9.out.tb | exact (K9.out.drewN hB _).tb) (by kernel_rfl) rfl (by kernel_rfl) ?_); (intro w_K10 hb9 hat9); (have hF := TS.setT (by first | exact K9.out | exact K9.out.drewN hB _ | exact K9.out.drew hB) hB hat9 hb9 (by first | exact K9.out.brow | exact (K9.out.drewN hB _).brow) (by first | exact K9.out.okb | exact (K9.out.drewN hB _).okb)); (have K10 := Lib.hid hF); (clear hF hb9 hat9)))
  refine Jump.ret ?_
  refine bodyPost_ret ?_ rfl (K10.out.ends)
  exact results_cell2 Try.results34 _ _ rfl rfl (run_loadVar_row (P := Try.prog) _ (w.heap.size + 1) 56 56 _ (0, 0) _ K10.out.tb Try.underlying56 rfl (by kernel_rfl))
set_option maxRecDepth 100000 in
set_option maxHeartbeats 4000000 in
theorem take_open0 {w : World} {B g : Nat} {okq oko S : Nat → Prop} {L : Lk} {q o : Value} (h : At w B okq oko g L q o) (hok : L.Ok) (hS : ∀ k, holds okq oko g k → S k) (hB : B ≤ w.heap.size) (boot : Int) (p : Pkt) (Ab : Option Addr) (cb : Nat)
    (hb0 : boot ≠ 0) (hbr : 0 ≤ boot ∧ boot < 4294967296) (hpr : p.Rng) (hck : checkP p.kind p.mine p.boot p.yours p.seq p.ack p.stamp p.echo p.zr p.zi p.body.length = 0)  (hph : L.phase = 1) (hag : 0 ≤ ageF L boot p.mine) (hkd : p.kind = 1) (hmn : meantF L p = false) :
    Calls Try.prog 34 #[.pointer (some ⟨g, 0, none⟩), .int .u32 boot, .agg #[.int .i64 p.kind, .int .u32 p.mine, .int .u32 p.boot, .int .u32 p.yours, .int .u32 p.seq, .int .u32 p.ack, .int .u32 p.stamp, .int .u32 p.echo, .complex .f64 p.zr p.zi, .slice Ab p.body.length cb]] w fun e w' => Took w B S g (emit_ ({ L with boot := boot, yours := p.mine, known := true }) (helloP ({ L with boot := boot, yours := p.mine, known := true }))) true false false [] e w' := by
  have HG0 := Lib.hid (show (((w.alloc (.cells #[.int .i64 p.kind, .int .u32 p.mine, .int .u32 p.boot, .int .u32 p.yours, .int .u32 p.seq, .int .u32 p.ack, .int .u32 p.stamp, .int .u32 p.echo, .complex .f64 p.zr p.zi, .slice Ab p.body.length cb] 27)).alloc (.cells #[.bool false, .bool false, .bool false, .slice none 0 0] 56))).heap[w.heap.size]? = some (.cells #[.int .i64 p.kind, .int .u32 p.mine, .int .u32 p.boot, .int .u32 p.yours, .int .u32 p.seq, .int .u32 p.ack, .int .u32 p.stamp, .int .u32 p.echo, .complex .f64 p.zr p.zi, .slice Ab p.body.length cb] 27 (0, 0)) from (Below.heap_alloc _ _ _ (by simp)).trans (heap_alloc_new w _))
  have H := Lib.hid h
  have OK := Lib.hid hok
  have HS := Lib.hid hS
  have HPR := Lib.hid hpr
  have HCK := Lib.hid hck
  have hbz : (boot == 0) = false := by simp [hb0]
  have HPH := Lib.hid hph
  clear hph
  have HKD := Lib.hid hkd
  clear hkd
  have hd2 : decide (ageF L boot p.mine < 0) = false := by simp; omega
  clear hag
  have HMN := Lib.hid hmn
  clear hmn
  have OKP := Lib.hid (peer_ok OK.out hbr HPR.out.mine true)
  have HBR := Lib.hid hbr
  clear hbr
  clear h hok hS hpr hck hb0
  go_enter Try.func34, Try.ntmps34
  go_wp2_with fail
  refine wp_scope_hid 3 (fun C HC => ?_)
  go_wp2_with (first | ((with_reducible refine gate_dst (N := 17) rfl ?_); (refine wpList_load_row rfl 27 (.tmp 5) rfl w.heap.size (by rfl) 27 #[.int .i64 p.kind, .int .u32 p.mine, .int .u32 p.boot, .int .u32 p.yours, .int .u32 p.seq, .int .u32 p.ack, .int .u32 p.stamp, .int .u32 p.echo, .complex .f64 p.zr p.zi, .slice Ab p.body.length cb] (0, 0) _ HG0.out Try.underlying27 rfl (by kernel_rfl) ?_)) | (go_at_call 20; (refine (check_any _ _ _ _ _ _ _ _ _ _ _ _ _ _ HPR.out.zr HPR.out.zi).mono ?_); (rintro e w_K0 ⟨rfl, hb⟩); (rw [HCK.out]); (have K0 := Lib.hid (TS.start (pc := #[.int .i64 p.kind, .int .u32 p.mine, .int .u32 p.boot, .int .u32 p.yours, .int .u32 p.seq, .int .u32 p.ack, .int .u32 p.stamp, .int .u32 p.echo, .complex .f64 p.zr p.zi, .slice Ab p.body.length cb]) H.out HS.out hB (hb.mono (by simp)))); (clear hb); (have hl1 : w_K0.cell? ⟨g, 1, none⟩ = some (.int .i64 1) := (blk_cell K0.out.at_.blk 1).trans (congrArg (fun x => some (Value.int .i64 x)) HPH.out)); (have hp0 : w_K0.cell? ⟨w.heap.size, 0, none⟩ = some (.int .i64 1) := (blk_cell K0.out.pb 0).trans (congrArg (fun x => some (Value.int .i64 x)) HKD.out)); (have hp1 : w_K0.cell? ⟨w.heap.size, 1, none⟩ = some (.int .u32 p.mine) := (blk_cell K0.out.pb 1).trans rfl)) | (go_at_call 76; (refine (age_of K0.out.at_ boot p.mine).mono ?_); (rintro e w1 ⟨rfl, rfl⟩); (skip)) | ((with_reducible refine gate_ (.store 4 (.tmp 40) (.const (.bool true))) rfl ?_); (refine store_F (fun wz => TS w B S g #[.int .i64 p.kind, .int .u32 p.mine, .int .u32 p.boot, .int .u32 p.yours, .int .u32 p.seq, .int .u32 p.ack, .int .u32 p.stamp, .int .u32 p.echo, .complex .f64 p.zr p.zi, .slice Ab p.body.length cb] okq oko (fun _ => False) (L) q o true false false (.slice none 0 0) [] wz) rfl rfl ⟨_, (by have hz1 : World.cell? w_K0 ⟨w.heap.size + 1, 0, none⟩ = some _ := (blk_cell K0.out.tb 0).trans rfl; have hz2 := blk_frozen K0.out.tb 0; first | (go_simp; done) | (go_simp; rfl)), TS.setT1 K0.out hB 0 _ rfl⟩ (fun w_K1 hF => ?_)); (have K1 := Lib.hid hF); (clear hF); (clear hl1 hp0 hp1); (have hl1 : w_K1.cell? ⟨g, 1, none⟩ = some (.int .i64 1) := (blk_cell K1.out.at_.blk 1).trans (congrArg (fun x => some (Value.int .i64 x)) HPH.out)); (have hp0 : w_K1.cell? ⟨w.heap.size, 0, none⟩ = some (.int .i64 1) := (blk_cell K1.out.pb 0).trans (congrArg (fun x => some (Value.int .i64 x)) HKD.out))))
  refine wp_goto ?_
  refine Jump.goto HC.out rfl ?_
  go_wp2_with fail
  have hSS : w_K1.drew.heap[w.heap.size]? = some (.cells #[.int .i64 p.kind, .int .u32 p.mine, .int .u32 p.boot, .int .u32 p.yours, .int .u32 p.seq, .int .u32 p.ack, .int .u32 p.stamp, .int .u32 p.echo, .complex .f64 p.zr p.zi, .slice Ab p.body.length cb] 27 (0, 0)) := K1.out.pb
  have hts := K1.out.drew hB
  clear hl1 hp0
  refine start_ (n := 15) (S := fun w' => w'.heap[w.heap.size]? = some (.cells #[.int .i64 p.kind, .int .u32 p.mine, .int .u32 p.boot, .int .u32 p.yours, .int .u32 p.seq, .int .u32 p.ack, .int .u32 p.stamp, .int .u32 p.echo, .complex .f64 p.zr p.zi, .slice Ab p.body.length cb] 27 (0, 0))) (ds := []) #[false, false, false, false, false, false, false, false, false, false, false, false, false, false, false] (by kernel_rfl) rfl rfl (hSS) (fun hHeld => ?_)
  generalize w_K1.drew = w_Y2 at hts hHeld ⊢
  have KY2 := Lib.hid hts
  clear hts hSS
  refine pure_ (i := 0) (N := some 63) (v := ?_) (a' := ?_) #[true, false, false, false, false, false, false, false, false, false, false, false, false, false, false] rfl rfl (by kernel_rfl) (fun _ _ _ h => h) (Or.inl ⟨by rfl, ?_⟩) ?_ ?_
  rotate_left
  · intro w'
    go_simp
    with_reducible rfl
  rotate_left
  · simp only [Act.put, List.setIfInBounds_toArray, List.set_cons_zero, List.set_cons_succ]
    rfl
  refine pure_ (i := 1) (N := some 64) (v := ?_) (a' := ?_) #[true, true, false, false, false, false, false, false, false, false, false, false, false, false, false] rfl rfl (by kernel_rfl) (fun _ _ _ h => h) (Or.inl ⟨by rfl, ?_⟩) ?_ ?_
  rotate_left
  · intro w'
    go_simp
    with_reducible rfl
  rotate_left
  · simp only [Act.put, List.setIfInBounds_toArray, List.set_cons_zero, List.set_cons_succ]
    rfl
  refine pure_ (i := 2) (N := some 65) (v := ?_) (a' := ?_) #[true, true, true, false, false, false, false, false, false, false, false, false, false, false, false] rfl rfl (by kernel_rfl) (fun _ _ _ h => h) (Or.inl ⟨by rfl, ?_⟩) ?_ ?_
  rotate_left
  · intro w'
    go_simp
    with_reducible rfl
  rotate_left
  · simp only [Act.put, List.setIfInBounds_toArray, List.set_cons_zero, List.set_cons_succ]
    rfl
  refine pure_ (i := 3) (N := some 66) (v := ?_) (a' := ?_) #[true, true, true, true, false, false, false, false, false, false, false, false, false, false, false] rfl rfl (by kernel_rfl) (fun _ _ _ h => h) (Or.inl ⟨by rfl, ?_⟩) ?_ ?_
  rotate_left
  · intro w'
    go_simp
    with_reducible rfl
  rotate_left
  · simp only [Act.put, List.setIfInBounds_toArray, List.set_cons_zero, List.set_cons_succ]
    rfl
  refine pure_ (i := 4) (N := some 67) (v := ?_) (a' := ?_) #[true, true, true, true, true, false, false, false, false, false, false, false, false, false, false] rfl rfl (by kernel_rfl) (fun _ _ _ h => h) (Or.inl ⟨by rfl, ?_⟩) ?_ ?_
  rotate_left
  · intro w'
    go_simp
    with_reducible rfl
  rotate_left
  · simp only [Act.put, List.setIfInBounds_toArray, List.set_cons_zero, List.set_cons_succ]
    rfl
  refine take_ (i := 5) (N := some 68) (v := ?_) (a' := ?_) #[true, true, true, true, true, true, false, false, false, false, false, false, false, false, false] rfl rfl (by kernel_rfl) (fun _ _ _ h => h) (Or.inl ⟨by rfl, ?_⟩) hHeld ?_ ?_
  rotate_left
  · intro w' s0
    have hp1 : w'.cell? ⟨w.heap.size, 1, none⟩ = some (.int .u32 p.mine) := (blk_cell s0 1).trans rfl
    clear s0
    go_simp
    with_reducible rfl
  rotate_left
  · simp only [Act.put, List.setIfInBounds_toArray, List.set_cons_zero, List.set_cons_succ]
    rfl
  refine pure_ (i := 6) (N := some 69) (v := ?_) (a' := ?_) #[true, true, true, true, true, true, true, false, false, false, false, false, false, false, false] rfl rfl (by kernel_rfl) (fun _ _ _ h => h) (Or.inl ⟨by rfl, ?_⟩) ?_ ?_
  rotate_left
  · intro w'
    go_simp
    with_reducible rfl
  rotate_left
  · simp only [Act.put, List.setIfInBounds_toArray, List.set_cons_zero, List.set_cons_succ]
    rfl
  refine pure_ (i := 7) (N := some 70) (v := ?_) (a' := ?_) #[true, true, true, true, true, true, true, true, false, false, false, false, false, false, false] rfl rfl (by kernel_rfl) (fun _ _ _ h => h) (Or.inl ⟨by rfl, ?_⟩) ?_ ?_
  rotate_left
  · intro w'
    go_simp
    with_reducible rfl
  rotate_left
  · simp only [Act.put, List.setIfInBounds_toArray, List.set_cons_zero, List.set_cons_succ]
    rfl
  refine one_ (i := 8) (N := none) #[true, true, true, true, true, true, true, true, true, false, false, false, false, false, false] rfl rfl (by kernel_rfl) (by decide) (fun K hK => ?_)
  have hz1 : w_Y2.cell? ⟨g, 3, none⟩ = some _ := (blk_cell KY2.out.at_.blk 3).trans rfl
  have hz2 := blk_frozen KY2.out.at_.blk 3
  refine skip_F (fun wz => TS w B S g #[.int .i64 p.kind, .int .u32 p.mine, .int .u32 p.boot, .int .u32 p.yours, .int .u32 p.seq, .int .u32 p.ack, .int .u32 p.stamp, .int .u32 p.echo, .complex .f64 p.zr p.zi, .slice Ab p.body.length cb] okq oko (fun _ => False) ({ L with boot := boot }) q o true false false (.slice none 0 0) [] wz) (by rfl) rfl ⟨_, by first | (go_simp; done) | (go_simp; rfl), TS.setL1 KY2.out hB 3 _ rfl rfl rfl⟩ (fun w_K3 hF => ?_)
  have K3 := Lib.hid hF
  clear hF hz1 hz2 hHeld
  refine hK.out _ _ K3.out.pb (fun hHeld => ?_)
  clear hK K
  refine pure_ (i := 9) (N := some 71) (v := ?_) (a' := ?_) #[true, true, true, true, true, true, true, true, true, true, false, false, false, false, false] rfl rfl (by kernel_rfl) (fun _ _ _ h => h) (Or.inl ⟨by rfl, ?_⟩) ?_ ?_
  rotate_left
  · intro w'
    go_simp
    with_reducible rfl
  rotate_left
  · simp only [Act.put, List.setIfInBounds_toArray, List.set_cons_zero, List.set_cons_succ]
    rfl
  refine pure_ (i := 10) (N := some 72) (v := ?_) (a' := ?_) #[true, true, true, true, true, true, true, true, true, true, true, false, false, false, false] rfl rfl (by kernel_rfl) (fun _ _ _ h => h) (Or.inl ⟨by rfl, ?_⟩) ?_ ?_
  rotate_left
  · intro w'
    go_simp
    with_reducible rfl
  rotate_left
  · simp only [Act.put, List.setIfInBounds_toArray, List.set_cons_zero, List.set_cons_succ]
    rfl
  refine one_ (i := 11) (N := none) #[true, true, true, true, true, true, true, true, true, true, true, true, false, false, false] rfl rfl (by kernel_rfl) (by decide) (fun K hK => ?_)
  have hz1 : w_K3.cell? ⟨g, 4, none⟩ = some _ := (blk_cell K3.out.at_.blk 4).trans rfl
  have hz2 := blk_frozen K3.out.at_.blk 4
  refine skip_F (fun wz => TS w B S g #[.int .i64 p.kind, .int .u32 p.mine, .int .u32 p.boot, .int .u32 p.yours, .int .u32 p.seq, .int .u32 p.ack, .int .u32 p.stamp, .int .u32 p.echo, .complex .f64 p.zr p.zi, .slice Ab p.body.length cb] okq oko (fun _ => False) ({ L with boot := boot, yours := p.mine }) q o true false false (.slice none 0 0) [] wz) (by rfl) rfl ⟨_, by first | (go_simp; done) | (go_simp; rfl), TS.setL1 K3.out hB 4 _ rfl rfl rfl⟩ (fun w_K4 hF => ?_)
  have K4 := Lib.hid hF
  clear hF hz1 hz2 hHeld
  refine hK.out _ _ K4.out.pb (fun hHeld => ?_)
  clear hK K
  refine pure_ (i := 12) (N := some 73) (v := ?_) (a' := ?_) #[true, true, true, true, true, true, true, true, true, true, true, true, true, false, false] rfl rfl (by kernel_rfl) (fun _ _ _ h => h) (Or.inl ⟨by rfl, ?_⟩) ?_ ?_
  rotate_left
  · intro w'
    go_simp
    with_reducible rfl
  rotate_left
  · simp only [Act.put, List.setIfInBounds_toArray, List.set_cons_zero, List.set_cons_succ]
    rfl
  refine pure_ (i := 13) (N := some 74) (v := ?_) (a' := ?_) #[true, true, true, true, true, true, true, true, true, true, true, true, true, true, false] rfl rfl (by kernel_rfl) (fun _ _ _ h => h) (Or.inl ⟨by rfl, ?_⟩) ?_ ?_
  rotate_left
  · intro w'
    go_simp
    with_reducible rfl
  rotate_left
  · simp only [Act.put, List.setIfInBounds_toArray, List.set_cons_zero, List.set_cons_succ]
    rfl
  refine one_ (i := 14) (N := none) #[true, true, true, true, true, true, true, true, true, true, true, true, true, true, true] rfl rfl (by kernel_rfl) (by decide) (fun K hK => ?_)
  have hz1 : w_K4.cell? ⟨g, 5, none⟩ = some _ := (blk_cell K4.out.at_.blk 5).trans rfl
  have hz2 := blk_frozen K4.out.at_.blk 5
  refine skip_F (fun wz => TS w B S g #[.int .i64 p.kind, .int .u32 p.mine, .int .u32 p.boot, .int .u32 p.yours, .int .u32 p.seq, .int .u32 p.ack, .int .u32 p.stamp, .int .u32 p.echo, .complex .f64 p.zr p.zi, .slice Ab p.body.length cb] okq oko (fun _ => False) ({ L with boot := boot, yours := p.mine, known := true }) q o true false false (.slice none 0 0) [] wz) (by rfl) rfl ⟨_, by first | (go_simp; done) | (go_simp; rfl), TS.setL1 K4.out hB 5 _ rfl rfl rfl⟩ (fun w_K5 hF => ?_)
  have K5 := Lib.hid hF
  clear hF hz1 hz2 hHeld
  refine hK.out _ _ K5.out.pb (fun hHeld => ?_)
  clear hK K
  refine done_ (by kernel_rfl) ?_
  clear hHeld
  go_wp2_with (first | ((with_reducible refine gate_dst (N := 76) rfl ?_); (refine wpList_load_row rfl 27 (.tmp 5) rfl w.heap.size (by rfl) 27 _ (0, 0) _ (by first | exact K5.out.pb | exact (K5.out.drewN hB _).pb) Try.underlying27 rfl (by kernel_rfl) ?_)) | (go_at_call 77; (refine (meant_of K5.out.at_ p (.slice Ab p.body.length cb)).mono ?_); (rintro e w_K6 ⟨rfl, hb⟩); (have hme : meantF ({ L with boot := boot, yours := p.mine, known := true }) p = false := HMN.out); (rw [hme]); (clear hme); (have K6 := Lib.hid (K5.out.sub hB hb)); (clear hb)) | (go_at_call 73; (refine (hello_of K6.out.at_ (OKP.out) (Nat.le_trans hB K6.out.kept.1)).mono ?_); (rintro e w_K7 ⟨rfl, hE⟩); (obtain ⟨oko_K7, o_K7, hF⟩ := TS.emits K6.out hB hE); (clear hE); (have K7 := Lib.hid hF); (clear hF)))
  refine wp_goto ?_
  refine Jump.goto HC.out rfl ?_
  go_wp2_with (first | ((with_reducible refine gate_dst (N := 207) rfl ?_); (refine wpList_load_row rfl 56 (.tmp 6) rfl (w.heap.size + 1) (by rfl) 56 _ (0, 0) _ (by first | exact K7.out.tb | exact (K7.out.drewN hB _).tb) Try.underlying56 rfl (by kernel_rfl) ?_)) | ((with_reducible refine gate_ (.store 56 (.tmp 6) (.tmp 207)) rfl ?_); (refine store_row_F rfl rfl 56 (.tmp 6) (.tmp 207) rfl (w.heap.size + 1) _ rfl rfl 56 _ (by first | exact K7.out.tb | exact (K7.out.drewN hB _).tb) (by kernel_rfl) rfl (by kernel_rfl) ?_); (intro w_K8 hb9 hat9); (have hF := TS.setT (by first | exact K7.out | exact K7.out.drewN hB _ | exact K7.out.drew hB) hB hat9 hb9 (by first | exact K7.out.brow | exact (K7.out.drewN hB _).brow) (by first | exact K7.out.okb | exact (K7.out.drewN hB _).okb)); (have K8 := Lib.hid hF); (clear hF hb9 hat9)))
  refine Jump.ret ?_
  refine bodyPost_ret ?_ rfl (K8.out.ends)
  exact results_cell2 Try.results34 _ _ rfl rfl (run_loadVar_row (P := Try.prog) _ (w.heap.size + 1) 56 56 _ (0, 0) _ K8.out.tb Try.underlying56 rfl (by kernel_rfl))
set_option maxRecDepth 100000 in
set_option maxHeartbeats 4000000 in
theorem take_again1 {w : World} {B g : Nat} {okq oko S : Nat → Prop} {L : Lk} {q o : Value} (h : At w B okq oko g L q o) (hok : L.Ok) (hS : ∀ k, holds okq oko g k → S k) (hB : B ≤ w.heap.size) (boot : Int) (p : Pkt) (Ab : Option Addr) (cb : Nat)
    (hb0 : boot ≠ 0) (hbr : 0 ≤ boot ∧ boot < 4294967296) (hpr : p.Rng) (hck : checkP p.kind p.mine p.boot p.yours p.seq p.ack p.stamp p.echo p.zr p.zi p.body.length = 0)  (hph : L.phase = 2) (hag : ageF L boot p.mine = 0) (hkd : p.kind = 1) (hsq : p.seq = 0) :
    Calls Try.prog 34 #[.pointer (some ⟨g, 0, none⟩), .int .u32 boot, .agg #[.int .i64 p.kind, .int .u32 p.mine, .int .u32 p.boot, .int .u32 p.yours, .int .u32 p.seq, .int .u32 p.ack, .int .u32 p.stamp, .int .u32 p.echo, .complex .f64 p.zr p.zi, .slice Ab p.body.length cb]] w fun e w' => Took w B S g (emit_ L (helloP L)) true false false [] e w' := by
  have HG0 := Lib.hid (show (((w.alloc (.cells #[.int .i64 p.kind, .int .u32 p.mine, .int .u32 p.boot, .int .u32 p.yours, .int .u32 p.seq, .int .u32 p.ack, .int .u32 p.stamp, .int .u32 p.echo, .complex .f64 p.zr p.zi, .slice Ab p.body.length cb] 27)).alloc (.cells #[.bool false, .bool false, .bool false, .slice none 0 0] 56))).heap[w.heap.size]? = some (.cells #[.int .i64 p.kind, .int .u32 p.mine, .int .u32 p.boot, .int .u32 p.yours, .int .u32 p.seq, .int .u32 p.ack, .int .u32 p.stamp, .int .u32 p.echo, .complex .f64 p.zr p.zi, .slice Ab p.body.length cb] 27 (0, 0)) from (Below.heap_alloc _ _ _ (by simp)).trans (heap_alloc_new w _))
  have H := Lib.hid h
  have OK := Lib.hid hok
  have HS := Lib.hid hS
  have HPR := Lib.hid hpr
  have HCK := Lib.hid hck
  have hbz : (boot == 0) = false := by simp [hb0]
  have HPH := Lib.hid hph
  clear hph
  have HAG := Lib.hid hag
  clear hag
  have HKD := Lib.hid hkd
  clear hkd
  have hd3 : (p.seq == 0) = true := by simp [hsq]
  clear hsq hbr
  clear h hok hS hpr hck hb0
  go_enter Try.func34, Try.ntmps34
  go_wp2_with fail
  refine wp_scope_hid 3 (fun C HC => ?_)
  go_wp2_with (first | ((with_reducible refine gate_dst (N := 17) rfl ?_); (refine wpList_load_row rfl 27 (.tmp 5) rfl w.heap.size (by rfl) 27 #[.int .i64 p.kind, .int .u32 p.mine, .int .u32 p.boot, .int .u32 p.yours, .int .u32 p.seq, .int .u32 p.ack, .int .u32 p.stamp, .int .u32 p.echo, .complex .f64 p.zr p.zi, .slice Ab p.body.length cb] (0, 0) _ HG0.out Try.underlying27 rfl (by kernel_rfl) ?_)) | (go_at_call 20; (refine (check_any _ _ _ _ _ _ _ _ _ _ _ _ _ _ HPR.out.zr HPR.out.zi).mono ?_); (rintro e w_K0 ⟨rfl, hb⟩); (rw [HCK.out]); (have K0 := Lib.hid (TS.start (pc := #[.int .i64 p.kind, .int .u32 p.mine, .int .u32 p.boot, .int .u32 p.yours, .int .u32 p.seq, .int .u32 p.ack, .int .u32 p.stamp, .int .u32 p.echo, .complex .f64 p.zr p.zi, .slice Ab p.body.length cb]) H.out HS.out hB (hb.mono (by simp)))); (clear hb); (have hl1 : w_K0.cell? ⟨g, 1, none⟩ = some (.int .i64 2) := (blk_cell K0.out.at_.blk 1).trans (congrArg (fun x => some (Value.int .i64 x)) HPH.out)); (have hp0 : w_K0.cell? ⟨w.heap.size, 0, none⟩ = some (.int .i64 1) := (blk_cell K0.out.pb 0).trans (congrArg (fun x => some (Value.int .i64 x)) HKD.out)); (have hp1 : w_K0.cell? ⟨w.heap.size, 1, none⟩ = some (.int .u32 p.mine) := (blk_cell K0.out.pb 1).trans rfl)) | (go_at_call 76; (refine (age_of K0.out.at_ boot p.mine).mono ?_); (rintro e w1 ⟨rfl, rfl⟩); (rw [HAG.out])) | ((with_reducible refine gate_ (.store 4 (.tmp 40) (.const (.bool true))) rfl ?_); (refine store_F (fun wz => TS w B S g #[.int .i64 p.kind, .int .u32 p.mine, .int .u32 p.boot, .int .u32 p.yours, .int .u32 p.seq, .int .u32 p.ack, .int .u32 p.stamp, .int .u32 p.echo, .complex .f64 p.zr p.zi, .slice Ab p.body.length cb] okq oko (fun _ => False) (L) q o true false false (.slice none 0 0) [] wz) rfl rfl ⟨_, (by have hz1 : World.cell? w_K0 ⟨w.heap.size + 1, 0, none⟩ = some _ := (blk_cell K0.out.tb 0).trans rfl; have hz2 := blk_frozen K0.out.tb 0; first | (go_simp; done) | (go_simp; rfl)), TS.setT1 K0.out hB 0 _ rfl⟩ (fun w_K1 hF => ?_)); (have K1 := Lib.hid hF); (clear hF); (clear hl1 hp0 hp1); (have hl1 : w_K1.cell? ⟨g, 1, none⟩ = some (.int .i64 2) := (blk_cell K1.out.at_.blk 1).trans (congrArg (fun x => some (Value.int .i64 x)) HPH.out)); (have hp4 : w_K1.cell? ⟨w.heap.size, 4, none⟩ = some (.int .u32 p.seq) := (blk_cell K1.out.pb 4).trans rfl)))
  refine wp_goto ?_
  refine Jump.goto HC.out rfl ?_
  go_wp2_with (first | (go_at_call 73; (refine (hello_of K1.out.at_ (OK.out) (Nat.le_trans hB K1.out.kept.1)).mono ?_); (rintro e w_K2 ⟨rfl, hE⟩); (obtain ⟨oko_K2, o_K2, hF⟩ := TS.emits K1.out hB hE); (clear hE); (have K2 := Lib.hid hF); (clear hF); (clear hl1 hp4)))
  refine wp_goto ?_
  refine Jump.goto HC.out rfl ?_
  go_wp2_with (first | ((with_reducible refine gate_dst (N := 207) rfl ?_); (refine wpList_load_row rfl 56 (.tmp 6) rfl (w.heap.size + 1) (by rfl) 56 _ (0, 0) _ (by first | exact K2.out.tb | exact (K2.out.drewN hB _).tb) Try.underlying56 rfl (by kernel_rfl) ?_)) | ((with_reducible refine gate_ (.store 56 (.tmp 6) (.tmp 207)) rfl ?_); (refine store_row_F rfl rfl 56 (.tmp 6) (.tmp 207) rfl (w.heap.size + 1) _ rfl rfl 56 _ (by first | exact K2.out.tb | exact (K2.out.drewN hB _).tb) (by kernel_rfl) rfl (by kernel_rfl) ?_); (intro w_K3 hb9 hat9); (have hF := TS.setT (by first | exact K2.out | exact K2.out.drewN hB _ | exact K2.out.drew hB) hB hat9 hb9 (by first | exact K2.out.brow | exact (K2.out.drewN hB _).brow) (by first | exact K2.out.okb | exact (K2.out.drewN hB _).okb)); (have K3 := Lib.hid hF); (clear hF hb9 hat9)))
  refine Jump.ret ?_
  refine bodyPost_ret ?_ rfl (K3.out.ends)
  exact results_cell2 Try.results34 _ _ rfl rfl (run_loadVar_row (P := Try.prog) _ (w.heap.size + 1) 56 56 _ (0, 0) _ K3.out.tb Try.underlying56 rfl (by kernel_rfl))
set_option maxRecDepth 100000 in
set_option maxHeartbeats 4000000 in
theorem take_again0 {w : World} {B g : Nat} {okq oko S : Nat → Prop} {L : Lk} {q o : Value} (h : At w B okq oko g L q o) (hok : L.Ok) (hS : ∀ k, holds okq oko g k → S k) (hB : B ≤ w.heap.size) (boot : Int) (p : Pkt) (Ab : Option Addr) (cb : Nat)
    (hb0 : boot ≠ 0) (hbr : 0 ≤ boot ∧ boot < 4294967296) (hpr : p.Rng) (hck : checkP p.kind p.mine p.boot p.yours p.seq p.ack p.stamp p.echo p.zr p.zi p.body.length = 0)  (hph : L.phase = 2) (hag : ageF L boot p.mine = 0) (hkd : p.kind = 1) (hsq : ¬ p.seq = 0) :
    Calls Try.prog 34 #[.pointer (some ⟨g, 0, none⟩), .int .u32 boot, .agg #[.int .i64 p.kind, .int .u32 p.mine, .int .u32 p.boot, .int .u32 p.yours, .int .u32 p.seq, .int .u32 p.ack, .int .u32 p.stamp, .int .u32 p.echo, .complex .f64 p.zr p.zi, .slice Ab p.body.length cb]] w fun e w' => Took w B S g (L) true false false [] e w' := by
  have HG0 := Lib.hid (show (((w.alloc (.cells #[.int .i64 p.kind, .int .u32 p.mine, .int .u32 p.boot, .int .u32 p.yours, .int .u32 p.seq, .int .u32 p.ack, .int .u32 p.stamp, .int .u32 p.echo, .complex .f64 p.zr p.zi, .slice Ab p.body.length cb] 27)).alloc (.cells #[.bool false, .bool false, .bool false, .slice none 0 0] 56))).heap[w.heap.size]? = some (.cells #[.int .i64 p.kind, .int .u32 p.mine, .int .u32 p.boot, .int .u32 p.yours, .int .u32 p.seq, .int .u32 p.ack, .int .u32 p.stamp, .int .u32 p.echo, .complex .f64 p.zr p.zi, .slice Ab p.body.length cb] 27 (0, 0)) from (Below.heap_alloc _ _ _ (by simp)).trans (heap_alloc_new w _))
  have H := Lib.hid h
  have OK := Lib.hid hok
  have HS := Lib.hid hS
  have HPR := Lib.hid hpr
  have HCK := Lib.hid hck
  have hbz : (boot == 0) = false := by simp [hb0]
  have HPH := Lib.hid hph
  clear hph
  have HAG := Lib.hid hag
  clear hag
  have HKD := Lib.hid hkd
  clear hkd
  have hd3 : (p.seq == 0) = false := by simp [hsq]
  clear hsq hbr
  clear h hok hS hpr hck hb0
  go_enter Try.func34, Try.ntmps34
  go_wp2_with fail
  refine wp_scope_hid 3 (fun C HC => ?_)
  go_wp2_with (first | ((with_reducible refine gate_dst (N := 17) rfl ?_); (refine wpList_load_row rfl 27 (.tmp 5) rfl w.heap.size (by rfl) 27 #[.int .i64 p.kind, .int .u32 p.mine, .int .u32 p.boot, .int .u32 p.yours, .int .u32 p.seq, .int .u32 p.ack, .int .u32 p.stamp, .int .u32 p.echo, .complex .f64 p.zr p.zi, .slice Ab p.body.length cb] (0, 0) _ HG0.out Try.underlying27 rfl (by kernel_rfl) ?_)) | (go_at_call 20; (refine (check_any _ _ _ _ _ _ _ _ _ _ _ _ _ _ HPR.out.zr HPR.out.zi).mono ?_); (rintro e w_K0 ⟨rfl, hb⟩); (rw [HCK.out]); (have K0 := Lib.hid (TS.start (pc := #[.int .i64 p.kind, .int .u32 p.mine, .int .u32 p.boot, .int .u32 p.yours, .int .u32 p.seq, .int .u32 p.ack, .int .u32 p.stamp, .int .u32 p.echo, .complex .f64 p.zr p.zi, .slice Ab p.body.length cb]) H.out HS.out hB (hb.mono (by simp)))); (clear hb); (have hl1 : w_K0.cell? ⟨g, 1, none⟩ = some (.int .i64 2) := (blk_cell K0.out.at_.blk 1).trans (congrArg (fun x => some (Value.int .i64 x)) HPH.out)); (have hp0 : w_K0.cell? ⟨w.heap.size, 0, none⟩ = some (.int .i64 1) := (blk_cell K0.out.pb 0).trans (congrArg (fun x => some (Value.int .i64 x)) HKD.out)); (have hp1 : w_K0.cell? ⟨w.heap.size, 1, none⟩ = some (.int .u32 p.mine) := (blk_cell K0.out.pb 1).trans rfl)) | (go_at_call 76; (refine (age_of K0.out.at_ boot p.mine).mono ?_); (rintro e w1 ⟨rfl, rfl⟩); (rw [HAG.out])) | ((with_reducible refine gate_ (.store 4 (.tmp 40) (.const (.bool true))) rfl ?_); (refine store_F (fun wz => TS w B S g #[.int .i64 p.kind, .int .u32 p.mine, .int .u32 p.boot, .int .u32 p.yours, .int .u32 p.seq, .int .u32 p.ack, .int .u32 p.stamp, .int .u32 p.echo, .complex .f64 p.zr p.zi, .slice Ab p.body.length cb] okq oko (fun _ => False) (L) q o true false false (.slice none 0 0) [] wz) rfl rfl ⟨_, (by have hz1 : World.cell? w_K0 ⟨w.heap.size + 1, 0, none⟩ = some _ := (blk_cell K0.out.tb 0).trans rfl; have hz2 := blk_frozen K0.out.tb 0; first | (go_simp; done) | (go_simp; rfl)), TS.setT1 K0.out hB 0 _ rfl⟩ (fun w_K1 hF => ?_)); (have K1 := Lib.hid hF); (clear hF); (clear hl1 hp0 hp1); (have hl1 : w_K1.cell? ⟨g, 1, none⟩ = some (.int .i64 2) := (blk_cell K1.out.at_.blk 1).trans (congrArg (fun x => some (Value.int .i64 x)) HPH.out)); (have hp4 : w_K1.cell? ⟨w.heap.size, 4, none⟩ = some (.int .u32 p.seq) := (blk_cell K1.out.pb 4).trans rfl)))
  refine wp_goto ?_
  refine Jump.goto HC.out rfl ?_
  go_wp2_with fail
  refine wp_goto ?_
  refine Jump.goto HC.out rfl ?_
  go_wp2_with (first | ((with_reducible refine gate_dst (N := 207) rfl ?_); (refine wpList_load_row rfl 56 (.tmp 6) rfl (w.heap.size + 1) (by rfl) 56 _ (0, 0) _ (by first | exact K1.out.tb | exact (K1.out.drewN hB _).tb) Try.underlying56 rfl (by kernel_rfl) ?_)) | ((with_reducible refine gate_ (.store 56 (.tmp 6) (.tmp 207)) rfl ?_); (refine store_row_F rfl rfl 56 (.tmp 6) (.tmp 207) rfl (w.heap.size + 1) _ rfl rfl 56 _ (by first | exact K1.out.tb | exact (K1.out.drewN hB _).tb) (by kernel_rfl) rfl (by kernel_rfl) ?_); (intro w_K2 hb9 hat9); (have hF := TS.setT (by first | exact K1.out | exact K1.out.drewN hB _ | exact K1.out.drew hB) hB hat9 hb9 (by first | exact K1.out.brow | exact (K1.out.drewN hB _).brow) (by first | exact K1.out.okb | exact (K1.out.drewN hB _).okb)); (have K2 := Lib.hid hF); (clear hF hb9 hat9)))
  refine Jump.ret ?_
  refine bodyPost_ret ?_ rfl (K2.out.ends)
  exact results_cell2 Try.results34 _ _ rfl rfl (run_loadVar_row (P := Try.prog) _ (w.heap.size + 1) 56 56 _ (0, 0) _ K2.out.tb Try.underlying56 rfl (by kernel_rfl))
set_option maxRecDepth 100000 in
set_option maxHeartbeats 4000000 in
theorem take_anew1 {w : World} {B g : Nat} {okq oko S : Nat → Prop} {L : Lk} {q o : Value} (h : At w B okq oko g L q o) (hok : L.Ok) (hS : ∀ k, holds okq oko g k → S k) (hB : B ≤ w.heap.size) (boot : Int) (p : Pkt) (Ab : Option Addr) (cb : Nat)
    (hb0 : boot ≠ 0) (hbr : 0 ≤ boot ∧ boot < 4294967296) (hpr : p.Rng) (hck : checkP p.kind p.mine p.boot p.yours p.seq p.ack p.stamp p.echo p.zr p.zi p.body.length = 0)  (hph : L.phase = 2) (hag : ageF L boot p.mine = 1) (hkd : p.kind = 1) (hmx : L.token = 4294967295) :
    Calls Try.prog 34 #[.pointer (some ⟨g, 0, none⟩), .int .u32 boot, .agg #[.int .i64 p.kind, .int .u32 p.mine, .int .u32 p.boot, .int .u32 p.yours, .int .u32 p.seq, .int .u32 p.ack, .int .u32 p.stamp, .int .u32 p.echo, .complex .f64 p.zr p.zi, .slice Ab p.body.length cb]] w fun e w' => Took w B S g (shut_ L) true false true [] e w' := by
  have HG0 := Lib.hid (show (((w.alloc (.cells #[.int .i64 p.kind, .int .u32 p.mine, .int .u32 p.boot, .int .u32 p.yours, .int .u32 p.seq, .int .u32 p.ack, .int .u32 p.stamp, .int .u32 p.echo, .complex .f64 p.zr p.zi, .slice Ab p.body.length cb] 27)).alloc (.cells #[.bool false, .bool false, .bool false, .slice none 0 0] 56))).heap[w.heap.size]? = some (.cells #[.int .i64 p.kind, .int .u32 p.mine, .int .u32 p.boot, .int .u32 p.yours, .int .u32 p.seq, .int .u32 p.ack, .int .u32 p.stamp, .int .u32 p.echo, .complex .f64 p.zr p.zi, .slice Ab p.body.length cb] 27 (0, 0)) from (Below.heap_alloc _ _ _ (by simp)).trans (heap_alloc_new w _))
  have H := Lib.hid h
  have OK := Lib.hid hok
  have HS := Lib.hid hS
  have HPR := Lib.hid hpr
  have HCK := Lib.hid hck
  have hbz : (boot == 0) = false := by simp [hb0]
  have HPH := Lib.hid hph
  clear hph
  have HAG := Lib.hid hag
  clear hag
  have HKD := Lib.hid hkd
  clear hkd
  have hd3 : (L.token == 4294967295) = true := by simp [hmx]
  clear hmx hbr
  clear h hok hS hpr hck hb0
  go_enter Try.func34, Try.ntmps34
  go_wp2_with fail
  refine wp_scope_hid 3 (fun C HC => ?_)
  go_wp2_with (first | ((with_reducible refine gate_dst (N := 17) rfl ?_); (refine wpList_load_row rfl 27 (.tmp 5) rfl w.heap.size (by rfl) 27 #[.int .i64 p.kind, .int .u32 p.mine, .int .u32 p.boot, .int .u32 p.yours, .int .u32 p.seq, .int .u32 p.ack, .int .u32 p.stamp, .int .u32 p.echo, .complex .f64 p.zr p.zi, .slice Ab p.body.length cb] (0, 0) _ HG0.out Try.underlying27 rfl (by kernel_rfl) ?_)) | (go_at_call 20; (refine (check_any _ _ _ _ _ _ _ _ _ _ _ _ _ _ HPR.out.zr HPR.out.zi).mono ?_); (rintro e w_K0 ⟨rfl, hb⟩); (rw [HCK.out]); (have K0 := Lib.hid (TS.start (pc := #[.int .i64 p.kind, .int .u32 p.mine, .int .u32 p.boot, .int .u32 p.yours, .int .u32 p.seq, .int .u32 p.ack, .int .u32 p.stamp, .int .u32 p.echo, .complex .f64 p.zr p.zi, .slice Ab p.body.length cb]) H.out HS.out hB (hb.mono (by simp)))); (clear hb); (have hl1 : w_K0.cell? ⟨g, 1, none⟩ = some (.int .i64 2) := (blk_cell K0.out.at_.blk 1).trans (congrArg (fun x => some (Value.int .i64 x)) HPH.out)); (have hp0 : w_K0.cell? ⟨w.heap.size, 0, none⟩ = some (.int .i64 1) := (blk_cell K0.out.pb 0).trans (congrArg (fun x => some (Value.int .i64 x)) HKD.out)); (have hp1 : w_K0.cell? ⟨w.heap.size, 1, none⟩ = some (.int .u32 p.mine) := (blk_cell K0.out.pb 1).trans rfl)) | (go_at_call 76; (refine (age_of K0.out.at_ boot p.mine).mono ?_); (rintro e w1 ⟨rfl, rfl⟩); (rw [HAG.out])) | ((with_reducible refine gate_ (.store 4 (.tmp 40) (.const (.bool true))) rfl ?_); (refine store_F (fun wz => TS w B S g #[.int .i64 p.kind, .int .u32 p.mine, .int .u32 p.boot, .int .u32 p.yours, .int .u32 p.seq, .int .u32 p.ack, .int .u32 p.stamp, .int .u32 p.echo, .complex .f64 p.zr p.zi, .slice Ab p.body.length cb] okq oko (fun _ => False) (L) q o true false false (.slice none 0 0) [] wz) rfl rfl ⟨_, (by have hz1 : World.cell? w_K0 ⟨w.heap.size + 1, 0, none⟩ = some _ := (blk_cell K0.out.tb 0).trans rfl; have hz2 := blk_frozen K0.out.tb 0; first | (go_simp; done) | (go_simp; rfl)), TS.setT1 K0.out hB 0 _ rfl⟩ (fun w_K1 hF => ?_)); (have K1 := Lib.hid hF); (clear hF); (clear hl1 hp0 hp1); (have hl1 : w_K1.cell? ⟨g, 1, none⟩ = some (.int .i64 2) := (blk_cell K1.out.at_.blk 1).trans (congrArg (fun x => some (Value.int .i64 x)) HPH.out)); (have hp0 : w_K1.cell? ⟨w.heap.size, 0, none⟩ = some (.int .i64 1) := (blk_cell K1.out.pb 0).trans (congrArg (fun x => some (Value.int .i64 x)) HKD.out))))
  refine wp_goto ?_
  refine Jump.goto HC.out rfl ?_
  go_wp2_with (first | ((with_reducible refine gate_ (.store 4 (.tmp 89) (.const (.bool true))) rfl ?_); (refine store_F (fun wz => TS w B S g #[.int .i64 p.kind, .int .u32 p.mine, .int .u32 p.boot, .int .u32 p.yours, .int .u32 p.seq, .int .u32 p.ack, .int .u32 p.stamp, .int .u32 p.echo, .complex .f64 p.zr p.zi, .slice Ab p.body.length cb] okq oko (fun _ => False) (L) q o true false true (.slice none 0 0) [] wz) rfl rfl ⟨_, (by have hz1 : World.cell? w_K1 ⟨w.heap.size + 1, 2, none⟩ = some _ := (blk_cell K1.out.tb 2).trans rfl; have hz2 := blk_frozen K1.out.tb 2; first | (go_simp; done) | (go_simp; rfl)), TS.setT1 K1.out hB 2 _ rfl⟩ (fun w_K2 hF => ?_)); (have K2 := Lib.hid hF); (clear hF); (clear hl1 hp0); (have hl2 : w_K2.cell? ⟨g, 2, none⟩ = some (.int .u32 L.token) := (blk_cell K2.out.at_.blk 2).trans rfl)) | (go_at_call 78; (refine (shut_of K2.out.at_).mono ?_); (rintro e w_K3 ⟨rfl, h1, hat⟩); (have K3 := Lib.hid (K2.out.setL hB hat h1 (fun _ hf => hf.elim))); (clear h1 hat); (clear hl2)))
  refine wp_goto ?_
  refine Jump.goto HC.out rfl ?_
  go_wp2_with (first | ((with_reducible refine gate_dst (N := 207) rfl ?_); (refine wpList_load_row rfl 56 (.tmp 6) rfl (w.heap.size + 1) (by rfl) 56 _ (0, 0) _ (by first | exact K3.out.tb | exact (K3.out.drewN hB _).tb) Try.underlying56 rfl (by kernel_rfl) ?_)) | ((with_reducible refine gate_ (.store 56 (.tmp 6) (.tmp 207)) rfl ?_); (refine store_row_F rfl rfl 56 (.tmp 6) (.tmp 207) rfl (w.heap.size + 1) _ rfl rfl 56 _ (by first | exact K3.out.tb | exact (K3.out.drewN hB _).tb) (by kernel_rfl) rfl (by kernel_rfl) ?_); (intro w_K4 hb9 hat9); (have hF := TS.setT (by first | exact K3.out | exact K3.out.drewN hB _ | exact K3.out.drew hB) hB hat9 hb9 (by first | exact K3.out.brow | exact (K3.out.drewN hB _).brow) (by first | exact K3.out.okb | exact (K3.out.drewN hB _).okb)); (have K4 := Lib.hid hF); (clear hF hb9 hat9)))
  refine Jump.ret ?_
  refine bodyPost_ret ?_ rfl (K4.out.ends)
  exact results_cell2 Try.results34 _ _ rfl rfl (run_loadVar_row (P := Try.prog) _ (w.heap.size + 1) 56 56 _ (0, 0) _ K4.out.tb Try.underlying56 rfl (by kernel_rfl))
set_option maxRecDepth 100000 in
set_option maxHeartbeats 4000000 in
theorem take_anew0 {w : World} {B g : Nat} {okq oko S : Nat → Prop} {L : Lk} {q o : Value} (h : At w B okq oko g L q o) (hok : L.Ok) (hS : ∀ k, holds okq oko g k → S k) (hB : B ≤ w.heap.size) (boot : Int) (p : Pkt) (Ab : Option Addr) (cb : Nat)
    (hb0 : boot ≠ 0) (hbr : 0 ≤ boot ∧ boot < 4294967296) (hpr : p.Rng) (hck : checkP p.kind p.mine p.boot p.yours p.seq p.ack p.stamp p.echo p.zr p.zi p.body.length = 0)  (hph : L.phase = 2) (hag : ageF L boot p.mine = 1) (hkd : p.kind = 1) (hmx : ¬ L.token = 4294967295) :
    Calls Try.prog 34 #[.pointer (some ⟨g, 0, none⟩), .int .u32 boot, .agg #[.int .i64 p.kind, .int .u32 p.mine, .int .u32 p.boot, .int .u32 p.yours, .int .u32 p.seq, .int .u32 p.ack, .int .u32 p.stamp, .int .u32 p.echo, .complex .f64 p.zr p.zi, .slice Ab p.body.length cb]] w fun e w' => Took w B S g (emit_ ({ begin_ L with boot := boot, yours := p.mine, known := true }) (helloP ({ begin_ L with boot := boot, yours := p.mine, known := true }))) true false true [] e w' := by
  have HG0 := Lib.hid (show (((w.alloc (.cells #[.int .i64 p.kind, .int .u32 p.mine, .int .u32 p.boot, .int .u32 p.yours, .int .u32 p.seq, .int .u32 p.ack, .int .u32 p.stamp, .int .u32 p.echo, .complex .f64 p.zr p.zi, .slice Ab p.body.length cb] 27)).alloc (.cells #[.bool false, .bool false, .bool false, .slice none 0 0] 56))).heap[w.heap.size]? = some (.cells #[.int .i64 p.kind, .int .u32 p.mine, .int .u32 p.boot, .int .u32 p.yours, .int .u32 p.seq, .int .u32 p.ack, .int .u32 p.stamp, .int .u32 p.echo, .complex .f64 p.zr p.zi, .slice Ab p.body.length cb] 27 (0, 0)) from (Below.heap_alloc _ _ _ (by simp)).trans (heap_alloc_new w _))
  have H := Lib.hid h
  have OK := Lib.hid hok
  have HS := Lib.hid hS
  have HPR := Lib.hid hpr
  have HCK := Lib.hid hck
  have hbz : (boot == 0) = false := by simp [hb0]
  have HPH := Lib.hid hph
  clear hph
  have HAG := Lib.hid hag
  clear hag
  have HKD := Lib.hid hkd
  clear hkd
  have hd3 : (L.token == 4294967295) = false := by simp [hmx]
  have htk : L.token < 4294967295 := by have := OK.out.token; omega
  have HTK := Lib.hid htk
  clear htk
  have OKP := Lib.hid (peer_ok (begin_ok OK.out HTK.out) hbr HPR.out.mine true)
  clear hmx hbr
  clear h hok hS hpr hck hb0
  go_enter Try.func34, Try.ntmps34
  go_wp2_with fail
  refine wp_scope_hid 3 (fun C HC => ?_)
  go_wp2_with (first | ((with_reducible refine gate_dst (N := 17) rfl ?_); (refine wpList_load_row rfl 27 (.tmp 5) rfl w.heap.size (by rfl) 27 #[.int .i64 p.kind, .int .u32 p.mine, .int .u32 p.boot, .int .u32 p.yours, .int .u32 p.seq, .int .u32 p.ack, .int .u32 p.stamp, .int .u32 p.echo, .complex .f64 p.zr p.zi, .slice Ab p.body.length cb] (0, 0) _ HG0.out Try.underlying27 rfl (by kernel_rfl) ?_)) | (go_at_call 20; (refine (check_any _ _ _ _ _ _ _ _ _ _ _ _ _ _ HPR.out.zr HPR.out.zi).mono ?_); (rintro e w_K0 ⟨rfl, hb⟩); (rw [HCK.out]); (have K0 := Lib.hid (TS.start (pc := #[.int .i64 p.kind, .int .u32 p.mine, .int .u32 p.boot, .int .u32 p.yours, .int .u32 p.seq, .int .u32 p.ack, .int .u32 p.stamp, .int .u32 p.echo, .complex .f64 p.zr p.zi, .slice Ab p.body.length cb]) H.out HS.out hB (hb.mono (by simp)))); (clear hb); (have hl1 : w_K0.cell? ⟨g, 1, none⟩ = some (.int .i64 2) := (blk_cell K0.out.at_.blk 1).trans (congrArg (fun x => some (Value.int .i64 x)) HPH.out)); (have hp0 : w_K0.cell? ⟨w.heap.size, 0, none⟩ = some (.int .i64 1) := (blk_cell K0.out.pb 0).trans (congrArg (fun x => some (Value.int .i64 x)) HKD.out)); (have hp1 : w_K0.cell? ⟨w.heap.size, 1, none⟩ = some (.int .u32 p.mine) := (blk_cell K0.out.pb 1).trans rfl)) | (go_at_call 76; (refine (age_of K0.out.at_ boot p.mine).mono ?_); (rintro e w1 ⟨rfl, rfl⟩); (rw [HAG.out])) | ((with_reducible refine gate_ (.store 4 (.tmp 40) (.const (.bool true))) rfl ?_); (refine store_F (fun wz => TS w B S g #[.int .i64 p.kind, .int .u32 p.mine, .int .u32 p.boot, .int .u32 p.yours, .int .u32 p.seq, .int .u32 p.ack, .int .u32 p.stamp, .int .u32 p.echo, .complex .f64 p.zr p.zi, .slice Ab p.body.length cb] okq oko (fun _ => False) (L) q o true false false (.slice none 0 0) [] wz) rfl rfl ⟨_, (by have hz1 : World.cell? w_K0 ⟨w.heap.size + 1, 0, none⟩ = some _ := (blk_cell K0.out.tb 0).trans rfl; have hz2 := blk_frozen K0.out.tb 0; first | (go_simp; done) | (go_simp; rfl)), TS.setT1 K0.out hB 0 _ rfl⟩ (fun w_K1 hF => ?_)); (have K1 := Lib.hid hF); (clear hF); (clear hl1 hp0 hp1); (have hl1 : w_K1.cell? ⟨g, 1, none⟩ = some (.int .i64 2) := (blk_cell K1.out.at_.blk 1).trans (congrArg (fun x => some (Value.int .i64 x)) HPH.out)); (have hp0 : w_K1.cell? ⟨w.heap.size, 0, none⟩ = some (.int .i64 1) := (blk_cell K1.out.pb 0).trans (congrArg (fun x => some (Value.int .i64 x)) HKD.out))))
  refine wp_goto ?_
  refine Jump.goto HC.out rfl ?_
  go_wp2_with (first | ((with_reducible refine gate_ (.store 4 (.tmp 89) (.const (.bool true))) rfl ?_); (refine store_F (fun wz => TS w B S g #[.int .i64 p.kind, .int .u32 p.mine, .int .u32 p.boot, .int .u32 p.yours, .int .u32 p.seq, .int .u32 p.ack, .int .u32 p.stamp, .int .u32 p.echo, .complex .f64 p.zr p.zi, .slice Ab p.body.length cb] okq oko (fun _ => False) (L) q o true false true (.slice none 0 0) [] wz) rfl rfl ⟨_, (by have hz1 : World.cell? w_K1 ⟨w.heap.size + 1, 2, none⟩ = some _ := (blk_cell K1.out.tb 2).trans rfl; have hz2 := blk_frozen K1.out.tb 2; first | (go_simp; done) | (go_simp; rfl)), TS.setT1 K1.out hB 2 _ rfl⟩ (fun w_K2 hF => ?_)); (have K2 := Lib.hid hF); (clear hF); (clear hl1 hp0); (have hl2 : w_K2.cell? ⟨g, 2, none⟩ = some (.int .u32 L.token) := (blk_cell K2.out.at_.blk 2).trans rfl)) | (go_at_call 72; (refine (begin_of K2.out.at_ OK.out HTK.out).mono ?_); (rintro e w_K3 ⟨rfl, h1, hat⟩); (have K3 := Lib.hid (K2.out.setL hB hat h1 (fun _ hf => hf.elim))); (clear h1 hat); (clear hl2)))
  have hSS : w_K3.drew.heap[w.heap.size]? = some (.cells #[.int .i64 p.kind, .int .u32 p.mine, .int .u32 p.boot, .int .u32 p.yours, .int .u32 p.seq, .int .u32 p.ack, .int .u32 p.stamp, .int .u32 p.echo, .complex .f64 p.zr p.zi, .slice Ab p.body.length cb] 27 (0, 0)) := K3.out.pb
  have hts := K3.out.drew hB
  refine start_ (n := 15) (S := fun w' => w'.heap[w.heap.size]? = some (.cells #[.int .i64 p.kind, .int .u32 p.mine, .int .u32 p.boot, .int .u32 p.yours, .int .u32 p.seq, .int .u32 p.ack, .int .u32 p.stamp, .int .u32 p.echo, .complex .f64 p.zr p.zi, .slice Ab p.body.length cb] 27 (0, 0))) (ds := []) #[false, false, false, false, false, false, false, false, false, false, false, false, false, false, false] (by kernel_rfl) rfl rfl (hSS) (fun hHeld => ?_)
  generalize w_K3.drew = w_Y4 at hts hHeld ⊢
  have KY4 := Lib.hid hts
  clear hts hSS
  refine pure_ (i := 0) (N := some 99) (v := ?_) (a' := ?_) #[true, false, false, false, false, false, false, false, false, false, false, false, false, false, false] rfl rfl (by kernel_rfl) (fun _ _ _ h => h) (Or.inl ⟨by rfl, ?_⟩) ?_ ?_
  rotate_left
  · intro w'
    go_simp
    with_reducible rfl
  rotate_left
  · simp only [Act.put, List.setIfInBounds_toArray, List.set_cons_zero, List.set_cons_succ]
    rfl
  refine pure_ (i := 1) (N := some 100) (v := ?_) (a' := ?_) #[true, true, false, false, false, false, false, false, false, false, false, false, false, false, false] rfl rfl (by kernel_rfl) (fun _ _ _ h => h) (Or.inl ⟨by rfl, ?_⟩) ?_ ?_
  rotate_left
  · intro w'
    go_simp
    with_reducible rfl
  rotate_left
  · simp only [Act.put, List.setIfInBounds_toArray, List.set_cons_zero, List.set_cons_succ]
    rfl
  refine pure_ (i := 2) (N := some 101) (v := ?_) (a' := ?_) #[true, true, true, false, false, false, false, false, false, false, false, false, false, false, false] rfl rfl (by kernel_rfl) (fun _ _ _ h => h) (Or.inl ⟨by rfl, ?_⟩) ?_ ?_
  rotate_left
  · intro w'
    go_simp
    with_reducible rfl
  rotate_left
  · simp only [Act.put, List.setIfInBounds_toArray, List.set_cons_zero, List.set_cons_succ]
    rfl
  refine pure_ (i := 3) (N := some 102) (v := ?_) (a' := ?_) #[true, true, true, true, false, false, false, false, false, false, false, false, false, false, false] rfl rfl (by kernel_rfl) (fun _ _ _ h => h) (Or.inl ⟨by rfl, ?_⟩) ?_ ?_
  rotate_left
  · intro w'
    go_simp
    with_reducible rfl
  rotate_left
  · simp only [Act.put, List.setIfInBounds_toArray, List.set_cons_zero, List.set_cons_succ]
    rfl
  refine pure_ (i := 4) (N := some 103) (v := ?_) (a' := ?_) #[true, true, true, true, true, false, false, false, false, false, false, false, false, false, false] rfl rfl (by kernel_rfl) (fun _ _ _ h => h) (Or.inl ⟨by rfl, ?_⟩) ?_ ?_
  rotate_left
  · intro w'
    go_simp
    with_reducible rfl
  rotate_left
  · simp only [Act.put, List.setIfInBounds_toArray, List.set_cons_zero, List.set_cons_succ]
    rfl
  refine take_ (i := 5) (N := some 104) (v := ?_) (a' := ?_) #[true, true, true, true, true, true, false, false, false, false, false, false, false, false, false] rfl rfl (by kernel_rfl) (fun _ _ _ h => h) (Or.inl ⟨by rfl, ?_⟩) hHeld ?_ ?_
  rotate_left
  · intro w' s0
    have hp1 : w'.cell? ⟨w.heap.size, 1, none⟩ = some (.int .u32 p.mine) := (blk_cell s0 1).trans rfl
    clear s0
    go_simp
    with_reducible rfl
  rotate_left
  · simp only [Act.put, List.setIfInBounds_toArray, List.set_cons_zero, List.set_cons_succ]
    rfl
  refine pure_ (i := 6) (N := some 105) (v := ?_) (a' := ?_) #[true, true, true, true, true, true, true, false, false, false, false, false, false, false, false] rfl rfl (by kernel_rfl) (fun _ _ _ h => h) (Or.inl ⟨by rfl, ?_⟩) ?_ ?_
  rotate_left
  · intro w'
    go_simp
    with_reducible rfl
  rotate_left
  · simp only [Act.put, List.setIfInBounds_toArray, List.set_cons_zero, List.set_cons_succ]
    rfl
  refine pure_ (i := 7) (N := some 106) (v := ?_) (a' := ?_) #[true, true, true, true, true, true, true, true, false, false, false, false, false, false, false] rfl rfl (by kernel_rfl) (fun _ _ _ h => h) (Or.inl ⟨by rfl, ?_⟩) ?_ ?_
  rotate_left
  · intro w'
    go_simp
    with_reducible rfl
  rotate_left
  · simp only [Act.put, List.setIfInBounds_toArray, List.set_cons_zero, List.set_cons_succ]
    rfl
  refine one_ (i := 8) (N := none) #[true, true, true, true, true, true, true, true, true, false, false, false, false, false, false] rfl rfl (by kernel_rfl) (by decide) (fun K hK => ?_)
  have hz1 : w_Y4.cell? ⟨g, 3, none⟩ = some _ := (blk_cell KY4.out.at_.blk 3).trans rfl
  have hz2 := blk_frozen KY4.out.at_.blk 3
  refine skip_F (fun wz => TS w B S g #[.int .i64 p.kind, .int .u32 p.mine, .int .u32 p.boot, .int .u32 p.yours, .int .u32 p.seq, .int .u32 p.ack, .int .u32 p.stamp, .int .u32 p.echo, .complex .f64 p.zr p.zi, .slice Ab p.body.length cb] (fun _ => False) oko (fun _ => False) ({ begin_ L with boot := boot }) (.slice none 0 0) o true false true (.slice none 0 0) [] wz) (by rfl) rfl ⟨_, by first | (go_simp; done) | (go_simp; rfl), TS.setL1 KY4.out hB 3 _ rfl rfl rfl⟩ (fun w_K5 hF => ?_)
  have K5 := Lib.hid hF
  clear hF hz1 hz2 hHeld
  refine hK.out _ _ K5.out.pb (fun hHeld => ?_)
  clear hK K
  refine pure_ (i := 9) (N := some 107) (v := ?_) (a' := ?_) #[true, true, true, true, true, true, true, true, true, true, false, false, false, false, false] rfl rfl (by kernel_rfl) (fun _ _ _ h => h) (Or.inl ⟨by rfl, ?_⟩) ?_ ?_
  rotate_left
  · intro w'
    go_simp
    with_reducible rfl
  rotate_left
  · simp only [Act.put, List.setIfInBounds_toArray, List.set_cons_zero, List.set_cons_succ]
    rfl
  refine pure_ (i := 10) (N := some 108) (v := ?_) (a' := ?_) #[true, true, true, true, true, true, true, true, true, true, true, false, false, false, false] rfl rfl (by kernel_rfl) (fun _ _ _ h => h) (Or.inl ⟨by rfl, ?_⟩) ?_ ?_
  rotate_left
  · intro w'
    go_simp
    with_reducible rfl
  rotate_left
  · simp only [Act.put, List.setIfInBounds_toArray, List.set_cons_zero, List.set_cons_succ]
    rfl
  refine one_ (i := 11) (N := none) #[true, true, true, true, true, true, true, true, true, true, true, true, false, false, false] rfl rfl (by kernel_rfl) (by decide) (fun K hK => ?_)
  have hz1 : w_K5.cell? ⟨g, 4, none⟩ = some _ := (blk_cell K5.out.at_.blk 4).trans rfl
  have hz2 := blk_frozen K5.out.at_.blk 4
  refine skip_F (fun wz => TS w B S g #[.int .i64 p.kind, .int .u32 p.mine, .int .u32 p.boot, .int .u32 p.yours, .int .u32 p.seq, .int .u32 p.ack, .int .u32 p.stamp, .int .u32 p.echo, .complex .f64 p.zr p.zi, .slice Ab p.body.length cb] (fun _ => False) oko (fun _ => False) ({ begin_ L with boot := boot, yours := p.mine }) (.slice none 0 0) o true false true (.slice none 0 0) [] wz) (by rfl) rfl ⟨_, by first | (go_simp; done) | (go_simp; rfl), TS.setL1 K5.out hB 4 _ rfl rfl rfl⟩ (fun w_K6 hF => ?_)
  have K6 := Lib.hid hF
  clear hF hz1 hz2 hHeld
  refine hK.out _ _ K6.out.pb (fun hHeld => ?_)
  clear hK K
  refine pure_ (i := 12) (N := some 109) (v := ?_) (a' := ?_) #[true, true, true, true, true, true, true, true, true, true, true, true, true, false, false] rfl rfl (by kernel_rfl) (fun _ _ _ h => h) (Or.inl ⟨by rfl, ?_⟩) ?_ ?_
  rotate_left
  · intro w'
    go_simp
    with_reducible rfl
  rotate_left
  · simp only [Act.put, List.setIfInBounds_toArray, List.set_cons_zero, List.set_cons_succ]
    rfl
  refine pure_ (i := 13) (N := some 110) (v := ?_) (a' := ?_) #[true, true, true, true, true, true, true, true, true, true, true, true, true, true, false] rfl rfl (by kernel_rfl) (fun _ _ _ h => h) (Or.inl ⟨by rfl, ?_⟩) ?_ ?_
  rotate_left
  · intro w'
    go_simp
    with_reducible rfl
  rotate_left
  · simp only [Act.put, List.setIfInBounds_toArray, List.set_cons_zero, List.set_cons_succ]
    rfl
  refine one_ (i := 14) (N := none) #[true, true, true, true, true, true, true, true, true, true, true, true, true, true, true] rfl rfl (by kernel_rfl) (by decide) (fun K hK => ?_)
  have hz1 : w_K6.cell? ⟨g, 5, none⟩ = some _ := (blk_cell K6.out.at_.blk 5).trans rfl
  have hz2 := blk_frozen K6.out.at_.blk 5
  refine skip_F (fun wz => TS w B S g #[.int .i64 p.kind, .int .u32 p.mine, .int .u32 p.boot, .int .u32 p.yours, .int .u32 p.seq, .int .u32 p.ack, .int .u32 p.stamp, .int .u32 p.echo, .complex .f64 p.zr p.zi, .slice Ab p.body.length cb] (fun _ => False) oko (fun _ => False) ({ begin_ L with boot := boot, yours := p.mine, known := true }) (.slice none 0 0) o true false true (.slice none 0 0) [] wz) (by rfl) rfl ⟨_, by first | (go_simp; done) | (go_simp; rfl), TS.setL1 K6.out hB 5 _ rfl rfl rfl⟩ (fun w_K7 hF => ?_)
  have K7 := Lib.hid hF
  clear hF hz1 hz2 hHeld
  refine hK.out _ _ K7.out.pb (fun hHeld => ?_)
  clear hK K
  refine done_ (by kernel_rfl) ?_
  clear hHeld
  go_wp2_with (first | (go_at_call 73; (refine (hello_of K7.out.at_ (OKP.out) (Nat.le_trans hB K7.out.kept.1)).mono ?_); (rintro e w_K8 ⟨rfl, hE⟩); (obtain ⟨oko_K8, o_K8, hF⟩ := TS.emits K7.out hB hE); (clear hE); (have K8 := Lib.hid hF); (clear hF)))
  refine wp_goto ?_
  refine Jump.goto HC.out rfl ?_
  go_wp2_with (first | ((with_reducible refine gate_dst (N := 207) rfl ?_); (refine wpList_load_row rfl 56 (.tmp 6) rfl (w.heap.size + 1) (by rfl) 56 _ (0, 0) _ (by first | exact K8.out.tb | exact (K8.out.drewN hB _).tb) Try.underlying56 rfl (by kernel_rfl) ?_)) | ((with_reducible refine gate_ (.store 56 (.tmp 6) (.tmp 207)) rfl ?_); (refine store_row_F rfl rfl 56 (.tmp 6) (.tmp 207) rfl (w.heap.size + 1) _ rfl rfl 56 _ (by first | exact K8.out.tb | exact (K8.out.drewN hB _).tb) (by kernel_rfl) rfl (by kernel_rfl) ?_); (intro w_K9 hb9 hat9); (have hF := TS.setT (by first | exact K8.out | exact K8.out.drewN hB _ | exact K8.out.drew hB) hB hat9 hb9 (by first | exact K8.out.brow | exact (K8.out.drewN hB _).brow) (by first | exact K8.out.okb | exact (K8.out.drewN hB _).okb)); (have K9 := Lib.hid hF); (clear hF hb9 hat9)))
  refine Jump.ret ?_
  refine bodyPost_ret ?_ rfl (K9.out.ends)
  exact results_cell2 Try.results34 _ _ rfl rfl (run_loadVar_row (P := Try.prog) _ (w.heap.size + 1) 56 56 _ (0, 0) _ K9.out.tb Try.underlying56 rfl (by kernel_rfl))
set_option maxRecDepth 100000 in
set_option maxHeartbeats 4000000 in
theorem take_no1 {w : World} {B g : Nat} {okq oko S : Nat → Prop} {L : Lk} {q o : Value} (h : At w B okq oko g L q o) (hok : L.Ok) (hS : ∀ k, holds okq oko g k → S k) (hB : B ≤ w.heap.size) (boot : Int) (p : Pkt) (Ab : Option Addr) (cb : Nat)
    (hb0 : boot ≠ 0) (hbr : 0 ≤ boot ∧ boot < 4294967296) (hpr : p.Rng) (hck : checkP p.kind p.mine p.boot p.yours p.seq p.ack p.stamp p.echo p.zr p.zi p.body.length = 0)  (hph : L.phase = 1) (hag : 0 ≤ ageF L boot p.mine) (hkn : p.kind ≠ 1) :
    Calls Try.prog 34 #[.pointer (some ⟨g, 0, none⟩), .int .u32 boot, .agg #[.int .i64 p.kind, .int .u32 p.mine, .int .u32 p.boot, .int .u32 p.yours, .int .u32 p.seq, .int .u32 p.ack, .int .u32 p.stamp, .int .u32 p.echo, .complex .f64 p.zr p.zi, .slice Ab p.body.length cb]] w fun e w' => Took w B S g (L) false false false [] e w' := by
  have HG0 := Lib.hid (show (((w.alloc (.cells #[.int .i64 p.kind, .int .u32 p.mine, .int .u32 p.boot, .int .u32 p.yours, .int .u32 p.seq, .int .u32 p.ack, .int .u32 p.stamp, .int .u32 p.echo, .complex .f64 p.zr p.zi, .slice Ab p.body.length cb] 27)).alloc (.cells #[.bool false, .bool false, .bool false, .slice none 0 0] 56))).heap[w.heap.size]? = some (.cells #[.int .i64 p.kind, .int .u32 p.mine, .int .u32 p.boot, .int .u32 p.yours, .int .u32 p.seq, .int .u32 p.ack, .int .u32 p.stamp, .int .u32 p.echo, .complex .f64 p.zr p.zi, .slice Ab p.body.length cb] 27 (0, 0)) from (Below.heap_alloc _ _ _ (by simp)).trans (heap_alloc_new w _))
  have H := Lib.hid h
  have OK := Lib.hid hok
  have HS := Lib.hid hS
  have HPR := Lib.hid hpr
  have HCK := Lib.hid hck
  have hbz : (boot == 0) = false := by simp [hb0]
  have HPH := Lib.hid hph
  clear hph
  have hd2 : decide (ageF L boot p.mine < 0) = false := by simp; omega
  clear hag hbr
  have hd4 : (p.kind == 1) = false := by simp [hkn]
  clear hkn
  clear h hok hS hpr hck hb0
  go_enter Try.func34, Try.ntmps34
  go_wp2_with fail
  refine wp_scope_hid 3 (fun C HC => ?_)
  go_wp2_with (first | ((with_reducible refine gate_dst (N := 17) rfl ?_); (refine wpList_load_row rfl 27 (.tmp 5) rfl w.heap.size (by rfl) 27 #[.int .i64 p.kind, .int .u32 p.mine, .int .u32 p.boot, .int .u32 p.yours, .int .u32 p.seq, .int .u32 p.ack, .int .u32 p.stamp, .int .u32 p.echo, .complex .f64 p.zr p.zi, .slice Ab p.body.length cb] (0, 0) _ HG0.out Try.underlying27 rfl (by kernel_rfl) ?_)) | (go_at_call 20; (refine (check_any _ _ _ _ _ _ _ _ _ _ _ _ _ _ HPR.out.zr HPR.out.zi).mono ?_); (rintro e w_K0 ⟨rfl, hb⟩); (rw [HCK.out]); (have K0 := Lib.hid (TS.start (pc := #[.int .i64 p.kind, .int .u32 p.mine, .int .u32 p.boot, .int .u32 p.yours, .int .u32 p.seq, .int .u32 p.ack, .int .u32 p.stamp, .int .u32 p.echo, .complex .f64 p.zr p.zi, .slice Ab p.body.length cb]) H.out HS.out hB (hb.mono (by simp)))); (clear hb); (have hl1 : w_K0.cell? ⟨g, 1, none⟩ = some (.int .i64 1) := (blk_cell K0.out.at_.blk 1).trans (congrArg (fun x => some (Value.int .i64 x)) HPH.out)); (have hp0 : w_K0.cell? ⟨w.heap.size, 0, none⟩ = some (.int .i64 p.kind) := (blk_cell K0.out.pb 0).trans rfl); (have hp1 : w_K0.cell? ⟨w.heap.size, 1, none⟩ = some (.int .u32 p.mine) := (blk_cell K0.out.pb 1).trans rfl)) | (go_at_call 76; (refine (age_of K0.out.at_ boot p.mine).mono ?_); (rintro e w1 ⟨rfl, rfl⟩); (skip)))
  refine wp_goto ?_
  refine Jump.goto HC.out rfl ?_
  go_wp2_with (first | ((with_reducible refine gate_dst (N := 207) rfl ?_); (refine wpList_load_row rfl 56 (.tmp 6) rfl (w.heap.size + 1) (by rfl) 56 _ (0, 0) _ (by first | exact K0.out.tb | exact (K0.out.drewN hB _).tb) Try.underlying56 rfl (by kernel_rfl) ?_)) | ((with_reducible refine gate_ (.store 56 (.tmp 6) (.tmp 207)) rfl ?_); (refine store_row_F rfl rfl 56 (.tmp 6) (.tmp 207) rfl (w.heap.size + 1) _ rfl rfl 56 _ (by first | exact K0.out.tb | exact (K0.out.drewN hB _).tb) (by kernel_rfl) rfl (by kernel_rfl) ?_); (intro w_K1 hb9 hat9); (have hF := TS.setT (by first | exact K0.out | exact K0.out.drewN hB _ | exact K0.out.drew hB) hB hat9 hb9 (by first | exact K0.out.brow | exact (K0.out.drewN hB _).brow) (by first | exact K0.out.okb | exact (K0.out.drewN hB _).okb)); (have K1 := Lib.hid hF); (clear hF hb9 hat9)))
  refine Jump.ret ?_
  refine bodyPost_ret ?_ rfl (K1.out.ends)
  exact results_cell2 Try.results34 _ _ rfl rfl (run_loadVar_row (P := Try.prog) _ (w.heap.size + 1) 56 56 _ (0, 0) _ K1.out.tb Try.underlying56 rfl (by kernel_rfl))
set_option maxRecDepth 100000 in
set_option maxHeartbeats 4000000 in
theorem take_no2 {w : World} {B g : Nat} {okq oko S : Nat → Prop} {L : Lk} {q o : Value} (h : At w B okq oko g L q o) (hok : L.Ok) (hS : ∀ k, holds okq oko g k → S k) (hB : B ≤ w.heap.size) (boot : Int) (p : Pkt) (Ab : Option Addr) (cb : Nat)
    (hb0 : boot ≠ 0) (hbr : 0 ≤ boot ∧ boot < 4294967296) (hpr : p.Rng) (hck : checkP p.kind p.mine p.boot p.yours p.seq p.ack p.stamp p.echo p.zr p.zi p.body.length = 0)  (hph : L.phase = 2) (hag : ageF L boot p.mine = 1) (hkn : p.kind ≠ 1) :
    Calls Try.prog 34 #[.pointer (some ⟨g, 0, none⟩), .int .u32 boot, .agg #[.int .i64 p.kind, .int .u32 p.mine, .int .u32 p.boot, .int .u32 p.yours, .int .u32 p.seq, .int .u32 p.ack, .int .u32 p.stamp, .int .u32 p.echo, .complex .f64 p.zr p.zi, .slice Ab p.body.length cb]] w fun e w' => Took w B S g (L) false false false [] e w' := by
  have HG0 := Lib.hid (show (((w.alloc (.cells #[.int .i64 p.kind, .int .u32 p.mine, .int .u32 p.boot, .int .u32 p.yours, .int .u32 p.seq, .int .u32 p.ack, .int .u32 p.stamp, .int .u32 p.echo, .complex .f64 p.zr p.zi, .slice Ab p.body.length cb] 27)).alloc (.cells #[.bool false, .bool false, .bool false, .slice none 0 0] 56))).heap[w.heap.size]? = some (.cells #[.int .i64 p.kind, .int .u32 p.mine, .int .u32 p.boot, .int .u32 p.yours, .int .u32 p.seq, .int .u32 p.ack, .int .u32 p.stamp, .int .u32 p.echo, .complex .f64 p.zr p.zi, .slice Ab p.body.length cb] 27 (0, 0)) from (Below.heap_alloc _ _ _ (by simp)).trans (heap_alloc_new w _))
  have H := Lib.hid h
  have OK := Lib.hid hok
  have HS := Lib.hid hS
  have HPR := Lib.hid hpr
  have HCK := Lib.hid hck
  have hbz : (boot == 0) = false := by simp [hb0]
  have HPH := Lib.hid hph
  clear hph
  have HAG := Lib.hid hag
  clear hag
  clear hbr
  have hd4 : (p.kind == 1) = false := by simp [hkn]
  clear hkn
  clear h hok hS hpr hck hb0
  go_enter Try.func34, Try.ntmps34
  go_wp2_with fail
  refine wp_scope_hid 3 (fun C HC => ?_)
  go_wp2_with (first | ((with_reducible refine gate_dst (N := 17) rfl ?_); (refine wpList_load_row rfl 27 (.tmp 5) rfl w.heap.size (by rfl) 27 #[.int .i64 p.kind, .int .u32 p.mine, .int .u32 p.boot, .int .u32 p.yours, .int .u32 p.seq, .int .u32 p.ack, .int .u32 p.stamp, .int .u32 p.echo, .complex .f64 p.zr p.zi, .slice Ab p.body.length cb] (0, 0) _ HG0.out Try.underlying27 rfl (by kernel_rfl) ?_)) | (go_at_call 20; (refine (check_any _ _ _ _ _ _ _ _ _ _ _ _ _ _ HPR.out.zr HPR.out.zi).mono ?_); (rintro e w_K0 ⟨rfl, hb⟩); (rw [HCK.out]); (have K0 := Lib.hid (TS.start (pc := #[.int .i64 p.kind, .int .u32 p.mine, .int .u32 p.boot, .int .u32 p.yours, .int .u32 p.seq, .int .u32 p.ack, .int .u32 p.stamp, .int .u32 p.echo, .complex .f64 p.zr p.zi, .slice Ab p.body.length cb]) H.out HS.out hB (hb.mono (by simp)))); (clear hb); (have hl1 : w_K0.cell? ⟨g, 1, none⟩ = some (.int .i64 2) := (blk_cell K0.out.at_.blk 1).trans (congrArg (fun x => some (Value.int .i64 x)) HPH.out)); (have hp0 : w_K0.cell? ⟨w.heap.size, 0, none⟩ = some (.int .i64 p.kind) := (blk_cell K0.out.pb 0).trans rfl); (have hp1 : w_K0.cell? ⟨w.heap.size, 1, none⟩ = some (.int .u32 p.mine) := (blk_cell K0.out.pb 1).trans rfl)) | (go_at_call 76; (refine (age_of K0.out.at_ boot p.mine).mono ?_); (rintro e w1 ⟨rfl, rfl⟩); (rw [HAG.out])))
  refine wp_goto ?_
  refine Jump.goto HC.out rfl ?_
  go_wp2_with (first | ((with_reducible refine gate_dst (N := 207) rfl ?_); (refine wpList_load_row rfl 56 (.tmp 6) rfl (w.heap.size + 1) (by rfl) 56 _ (0, 0) _ (by first | exact K0.out.tb | exact (K0.out.drewN hB _).tb) Try.underlying56 rfl (by kernel_rfl) ?_)) | ((with_reducible refine gate_ (.store 56 (.tmp 6) (.tmp 207)) rfl ?_); (refine store_row_F rfl rfl 56 (.tmp 6) (.tmp 207) rfl (w.heap.size + 1) _ rfl rfl 56 _ (by first | exact K0.out.tb | exact (K0.out.drewN hB _).tb) (by kernel_rfl) rfl (by kernel_rfl) ?_); (intro w_K1 hb9 hat9); (have hF := TS.setT (by first | exact K0.out | exact K0.out.drewN hB _ | exact K0.out.drew hB) hB hat9 hb9 (by first | exact K0.out.brow | exact (K0.out.drewN hB _).brow) (by first | exact K0.out.okb | exact (K0.out.drewN hB _).okb)); (have K1 := Lib.hid hF); (clear hF hb9 hat9)))
  refine Jump.ret ?_
  refine bodyPost_ret ?_ rfl (K1.out.ends)
  exact results_cell2 Try.results34 _ _ rfl rfl (run_loadVar_row (P := Try.prog) _ (w.heap.size + 1) 56 56 _ (0, 0) _ K1.out.tb Try.underlying56 rfl (by kernel_rfl))
set_option maxRecDepth 100000 in
set_option maxHeartbeats 4000000 in
theorem take_no3 {w : World} {B g : Nat} {okq oko S : Nat → Prop} {L : Lk} {q o : Value} (h : At w B okq oko g L q o) (hok : L.Ok) (hS : ∀ k, holds okq oko g k → S k) (hB : B ≤ w.heap.size) (boot : Int) (p : Pkt) (Ab : Option Addr) (cb : Nat)
    (hb0 : boot ≠ 0) (hbr : 0 ≤ boot ∧ boot < 4294967296) (hpr : p.Rng) (hck : checkP p.kind p.mine p.boot p.yours p.seq p.ack p.stamp p.echo p.zr p.zi p.body.length = 0)  (hph : L.phase = 2) (hag : ageF L boot p.mine = 0) (hkn : p.kind ≠ 1) (hmn : meantF L p = false) :
    Calls Try.prog 34 #[.pointer (some ⟨g, 0, none⟩), .int .u32 boot, .agg #[.int .i64 p.kind, .int .u32 p.mine, .int .u32 p.boot, .int .u32 p.yours, .int .u32 p.seq, .int .u32 p.ack, .int .u32 p.stamp, .int .u32 p.echo, .complex .f64 p.zr p.zi, .slice Ab p.body.length cb]] w fun e w' => Took w B S g (L) false false false [] e w' := by
  have HG0 := Lib.hid (show (((w.alloc (.cells #[.int .i64 p.kind, .int .u32 p.mine, .int .u32 p.boot, .int .u32 p.yours, .int .u32 p.seq, .int .u32 p.ack, .int .u32 p.stamp, .int .u32 p.echo, .complex .f64 p.zr p.zi, .slice Ab p.body.length cb] 27)).alloc (.cells #[.bool false, .bool false, .bool false, .slice none 0 0] 56))).heap[w.heap.size]? = some (.cells #[.int .i64 p.kind, .int .u32 p.mine, .int .u32 p.boot, .int .u32 p.yours, .int .u32 p.seq, .int .u32 p.ack, .int .u32 p.stamp, .int .u32 p.echo, .complex .f64 p.zr p.zi, .slice Ab p.body.length cb] 27 (0, 0)) from (Below.heap_alloc _ _ _ (by simp)).trans (heap_alloc_new w _))
  have H := Lib.hid h
  have OK := Lib.hid hok
  have HS := Lib.hid hS
  have HPR := Lib.hid hpr
  have HCK := Lib.hid hck
  have hbz : (boot == 0) = false := by simp [hb0]
  have HPH := Lib.hid hph
  clear hph
  have HAG := Lib.hid hag
  clear hag
  clear hbr
  have HMN := Lib.hid hmn
  clear hmn
  have hd4 : (p.kind == 1) = false := by simp [hkn]
  clear hkn
  clear h hok hS hpr hck hb0
  go_enter Try.func34, Try.ntmps34
  go_wp2_with fail
  refine wp_scope_hid 3 (fun C HC => ?_)
  go_wp2_with (first | ((with_reducible refine gate_dst (N := 17) rfl ?_); (refine wpList_load_row rfl 27 (.tmp 5) rfl w.heap.size (by rfl) 27 #[.int .i64 p.kind, .int .u32 p.mine, .int .u32 p.boot, .int .u32 p.yours, .int .u32 p.seq, .int .u32 p.ack, .int .u32 p.stamp, .int .u32 p.echo, .complex .f64 p.zr p.zi, .slice Ab p.body.length cb] (0, 0) _ HG0.out Try.underlying27 rfl (by kernel_rfl) ?_)) | (go_at_call 20; (refine (check_any _ _ _ _ _ _ _ _ _ _ _ _ _ _ HPR.out.zr HPR.out.zi).mono ?_); (rintro e w_K0 ⟨rfl, hb⟩); (rw [HCK.out]); (have K0 := Lib.hid (TS.start (pc := #[.int .i64 p.kind, .int .u32 p.mine, .int .u32 p.boot, .int .u32 p.yours, .int .u32 p.seq, .int .u32 p.ack, .int .u32 p.stamp, .int .u32 p.echo, .complex .f64 p.zr p.zi, .slice Ab p.body.length cb]) H.out HS.out hB (hb.mono (by simp)))); (clear hb); (have hl1 : w_K0.cell? ⟨g, 1, none⟩ = some (.int .i64 2) := (blk_cell K0.out.at_.blk 1).trans (congrArg (fun x => some (Value.int .i64 x)) HPH.out)); (have hp0 : w_K0.cell? ⟨w.heap.size, 0, none⟩ = some (.int .i64 p.kind) := (blk_cell K0.out.pb 0).trans rfl); (have hp1 : w_K0.cell? ⟨w.heap.size, 1, none⟩ = some (.int .u32 p.mine) := (blk_cell K0.out.pb 1).trans rfl)) | (go_at_call 76; (refine (age_of K0.out.at_ boot p.mine).mono ?_); (rintro e w1 ⟨rfl, rfl⟩); (rw [HAG.out])) | ((with_reducible refine gate_dst (N := 59) rfl ?_); (refine gate_guard (by rfl) ?_); (refine wpList_load_row rfl 27 (.tmp 5) rfl w.heap.size (by rfl) 27 _ (0, 0) _ (by first | exact K0.out.pb | exact (K0.out.drewN hB _).pb) Try.underlying27 rfl (by kernel_rfl) ?_)) | (go_at_call 77; (refine (meant_of K0.out.at_ p (.slice Ab p.body.length cb)).mono ?_); (rintro e w_K1 ⟨rfl, hb⟩); (have hme : meantF (L) p = false := HMN.out); (rw [hme]); (clear hme); (have K1 := Lib.hid (K0.out.sub hB hb)); (clear hb); (clear hl1 hp0 hp1)))
  refine wp_goto ?_
  refine Jump.goto HC.out rfl ?_
  go_wp2_with (first | ((with_reducible refine gate_dst (N := 207) rfl ?_); (refine wpList_load_row rfl 56 (.tmp 6) rfl (w.heap.size + 1) (by rfl) 56 _ (0, 0) _ (by first | exact K1.out.tb | exact (K1.out.drewN hB _).tb) Try.underlying56 rfl (by kernel_rfl) ?_)) | ((with_reducible refine gate_ (.store 56 (.tmp 6) (.tmp 207)) rfl ?_); (refine store_row_F rfl rfl 56 (.tmp 6) (.tmp 207) rfl (w.heap.size + 1) _ rfl rfl 56 _ (by first | exact K1.out.tb | exact (K1.out.drewN hB _).tb) (by kernel_rfl) rfl (by kernel_rfl) ?_); (intro w_K2 hb9 hat9); (have hF := TS.setT (by first | exact K1.out | exact K1.out.drewN hB _ | exact K1.out.drew hB) hB hat9 hb9 (by first | exact K1.out.brow | exact (K1.out.drewN hB _).brow) (by first | exact K1.out.okb | exact (K1.out.drewN hB _).okb)); (have K2 := Lib.hid hF); (clear hF hb9 hat9)))
  refine Jump.ret ?_
  refine bodyPost_ret ?_ rfl (K2.out.ends)
  exact results_cell2 Try.results34 _ _ rfl rfl (run_loadVar_row (P := Try.prog) _ (w.heap.size + 1) 56 56 _ (0, 0) _ K2.out.tb Try.underlying56 rfl (by kernel_rfl))
end Go.Proofs.Ytnkkgofpifhoeaa.Lk
