/- What is wrong with a packet: pack.Check; for all packets. -/
import Derived.Test.YtnkkgofpifhoeaaRows2
import Derived.Test.YtnkkgofpifhoeaaWTab
import Derived.Test.YtnkkgofpifhoeaaWLast
import Derived.Test.YtnkkgofpifhoeaaWMore
namespace Go.Proofs.Ytnkkgofpifhoeaa.Pk
open Go.RowKit Go.Proofs.Ytnkkgofpifhoeaa.Flt Go.Proofs.Ytnkkgofpifhoeaa.Base Go.Proofs.Ytnkkgofpifhoeaa.Num Go.Proofs.YtnkkgofpifhoeaaW.PrintWords Go.Proofs.YtnkkgofpifhoeaaW.PrintLast
set_option linter.unusedSimpArgs false
set_option linter.unusedVariables false
theorem ix1 (w : World) : (Instr.index 108 table (.int .i64 1)).run Try.prog w = .ok (.agg #[.bool true, .bool false, .bool false, .bool false, .int .i64 14, .int .i64 14]) w := by kernel_rfl
theorem ix2 (w : World) : (Instr.index 108 table (.int .i64 2)).run Try.prog w = .ok (.agg #[.bool true, .bool true, .bool false, .bool true, .int .i64 22, .int .i64 1021]) w := by kernel_rfl
theorem ix3 (w : World) : (Instr.index 108 table (.int .i64 3)).run Try.prog w = .ok (.agg #[.bool false, .bool true, .bool false, .bool false, .int .i64 17, .int .i64 17]) w := by kernel_rfl
theorem ix4 (w : World) : (Instr.index 108 table (.int .i64 4)).run Try.prog w = .ok (.agg #[.bool false, .bool true, .bool true, .bool false, .int .i64 41, .int .i64 41]) w := by kernel_rfl
set_option maxRecDepth 100000 in
set_option maxHeartbeats 4000000 in
theorem check_hello (mine boot yours seq ack stamp echo : Int) (zr zi : Nat) (A : Option Addr) (n c : Nat) (w : World) :
    Calls Try.prog 20 #[.agg #[.int .i64 1, .int .u32 mine, .int .u32 boot, .int .u32 yours, .int .u32 seq, .int .u32 ack, .int .u32 stamp, .int .u32 echo, .complex .f64 zr zi, .slice A n c]] w
      fun e w' => e = .returned (.int .i64 (if good1 mine boot yours seq ack stamp echo zr zi n = true then 0 else 101)) ∧ Below w.heap.size w w' := by
  have hu27 := Try.underlying27
  have hix := ix1
  cases hg : good1 mine boot yours seq ack stamp echo zr zi n
  all_goals
    have HG := Lib.hid hg
    clear hg
    go_enter Try.func20, Try.ntmps20
    go_wp2_with fail
    have HB := Lib.hid (heap_alloc_new w (.cells #[.int .i64 1, .int .u32 mine, .int .u32 boot, .int .u32 yours, .int .u32 seq, .int .u32 ack, .int .u32 stamp, .int .u32 echo, .complex .f64 zr zi, .slice A n c] 27))
    have HW := Lib.hid (bl_drew ((Below.refl w.heap.size w).alloc (Nat.le_refl _) (.cells #[.int .i64 1, .int .u32 mine, .int .u32 boot, .int .u32 yours, .int .u32 seq, .int .u32 ack, .int .u32 stamp, .int .u32 echo, .complex .f64 zr zi, .slice A n c] 27)))
    refine start_ (n := 7) (S := fun w' => w'.heap[w.heap.size]? = some (.cells #[.int .i64 1, .int .u32 mine, .int .u32 boot, .int .u32 yours, .int .u32 seq, .int .u32 ack, .int .u32 stamp, .int .u32 echo, .complex .f64 zr zi, .slice A n c] 27 (0, 0))) (ds := []) #[false, false, false, false, false, false, false] (by kernel_rfl) rfl rfl (HB.out) (fun hHeld => ?_)
    generalize (w.alloc (.cells #[.int .i64 1, .int .u32 mine, .int .u32 boot, .int .u32 yours, .int .u32 seq, .int .u32 ack, .int .u32 stamp, .int .u32 echo, .complex .f64 zr zi, .slice A n c] 27)).drew = w1 at HW hHeld ⊢
    refine take_ (i := 0) (N := some 20) (v := ?_) (a' := ?_) #[true, false, false, false, false, false, false] rfl rfl (by kernel_rfl) (fun _ _ _ h => h) (Or.inl ⟨by rfl, ?_⟩) hHeld ?_ ?_
    rotate_left
    · intro w' s0
      have hc0 : w'.cell? ⟨w.heap.size, 0, none⟩ = some (.int .i64 1) := (blk_cell s0 0).trans rfl
      have hc1 : w'.cell? ⟨w.heap.size, 1, none⟩ = some (.int .u32 mine) := (blk_cell s0 1).trans rfl
      have hc2 : w'.cell? ⟨w.heap.size, 2, none⟩ = some (.int .u32 boot) := (blk_cell s0 2).trans rfl
      have hc3 : w'.cell? ⟨w.heap.size, 3, none⟩ = some (.int .u32 yours) := (blk_cell s0 3).trans rfl
      have hc4 : w'.cell? ⟨w.heap.size, 4, none⟩ = some (.int .u32 seq) := (blk_cell s0 4).trans rfl
      have hc5 : w'.cell? ⟨w.heap.size, 5, none⟩ = some (.int .u32 ack) := (blk_cell s0 5).trans rfl
      have hc6 : w'.cell? ⟨w.heap.size, 6, none⟩ = some (.int .u32 stamp) := (blk_cell s0 6).trans rfl
      have hc7 : w'.cell? ⟨w.heap.size, 7, none⟩ = some (.int .u32 echo) := (blk_cell s0 7).trans rfl
      have hc8 : w'.cell? ⟨w.heap.size, 8, none⟩ = some (.complex .f64 zr zi) := (blk_cell s0 8).trans rfl
      have hc9 : w'.cell? ⟨w.heap.size, 9, none⟩ = some (.slice A n c) := (blk_cell s0 9).trans rfl
      clear s0
      go_simp
      with_reducible rfl
    rotate_left
    · simp only [Act.put, List.setIfInBounds_toArray, List.set_cons_zero, List.set_cons_succ]
      rfl
    refine pure_ (i := 2) (N := some 22) (v := ?_) (a' := ?_) #[true, false, true, false, false, false, false] rfl rfl (by kernel_rfl) (fun _ _ _ h => h) (Or.inl ⟨by rfl, ?_⟩) ?_ ?_
    rotate_left
    · intro w'
      go_simp
      with_reducible rfl
    rotate_left
    · simp only [Act.put, List.setIfInBounds_toArray, List.set_cons_zero, List.set_cons_succ]
      rfl
    refine take_ (i := 3) (N := some 23) (v := ?_) (a' := ?_) #[true, false, true, true, false, false, false] rfl rfl (by kernel_rfl) (fun _ _ _ h => h) (Or.inl ⟨by rfl, ?_⟩) hHeld ?_ ?_
    rotate_left
    · intro w' s0
      have hc0 : w'.cell? ⟨w.heap.size, 0, none⟩ = some (.int .i64 1) := (blk_cell s0 0).trans rfl
      clear s0
      go_simp
      with_reducible rfl
    rotate_left
    · simp only [Act.put, List.setIfInBounds_toArray, List.set_cons_zero, List.set_cons_succ]
      rfl
    refine one_ (i := 1) (N := some 21) #[true, true, true, true, false, false, false] rfl rfl (by kernel_rfl) (by decide) (fun K hK => ?_)
    refine goes_ Try.func59 (by kernel_rfl) rfl #[] (by rfl) rfl rfl (by (try simp only [List.map_toArray, List.map_cons, List.map_nil]); first | done | rfl) ?_
    refine (rows_any _).mono ?_
    rintro e w' ⟨rfl, hb⟩
    refine ⟨_, rfl, ?_⟩
    have HW2 := Lib.hid (HW.out.trans (hb.mono HW.out.size))
    clear HW
    have HW := HW2
    clear HW2
    have hs9 := (hb.block w.heap.size (blk_lt hHeld)).trans hHeld
    clear hb
    refine hK.out _ _ (hs9) (fun hHeld => ?_)
    clear hK K
    refine norm_ (a' := ?_) ?_ ?_
    rotate_left
    · show Act.put _ (some 21) _ = _
      simp only [Act.put, List.setIfInBounds_toArray, List.set_cons_zero, List.set_cons_succ]
      rfl
    refine pure_ (i := 4) (N := some 24) (v := ?_) (a' := ?_) #[true, true, true, true, true, false, false] rfl rfl (by kernel_rfl) (fun _ _ _ h => h) (Or.inl ⟨by rfl, ?_⟩) ?_ ?_
    rotate_left
    · intro w'
      go_simp
      with_reducible rfl
    rotate_left
    · simp only [Act.put, List.setIfInBounds_toArray, List.set_cons_zero, List.set_cons_succ]
      rfl
    refine one_ (i := 5) (N := some 25) #[true, true, true, true, true, true, false] rfl rfl (by kernel_rfl) (by decide) (fun K hK => ?_)
    refine goes_ Try.func66 (by kernel_rfl) rfl #[.agg #[.int .i64 1, .int .u32 mine, .int .u32 boot, .int .u32 yours, .int .u32 seq, .int .u32 ack, .int .u32 stamp, .int .u32 echo, .complex .f64 zr zi, .slice A n c], .agg #[.bool true, .bool false, .bool false, .bool false, .int .i64 14, .int .i64 14]] (by rfl) rfl rfl (by (try simp only [List.map_toArray, List.map_cons, List.map_nil]); first | done | rfl) ?_
    refine (good_hello _ _ _ _ _ _ _ zr zi A n c _).mono ?_
    rintro e w' ⟨rfl, hb⟩
    refine ⟨_, rfl, ?_⟩
    have HW2 := Lib.hid (HW.out.trans (hb.mono HW.out.size))
    clear HW
    have HW := HW2
    clear HW2
    have hs9 := (hb.block w.heap.size (blk_lt hHeld)).trans hHeld
    clear hb
    rw [HG.out]
    refine hK.out _ _ (hs9) (fun hHeld => ?_)
    clear hK K
    refine norm_ (a' := ?_) ?_ ?_
    rotate_left
    · show Act.put _ (some 25) _ = _
      simp only [Act.put, List.setIfInBounds_toArray, List.set_cons_zero, List.set_cons_succ]
      rfl
    refine pure_ (i := 6) (N := some 26) (v := ?_) (a' := ?_) #[true, true, true, true, true, true, true] rfl rfl (by kernel_rfl) (fun _ _ _ h => h) (Or.inl ⟨by rfl, ?_⟩) ?_ ?_
    rotate_left
    · intro w'
      go_simp
      with_reducible rfl
    rotate_left
    · simp only [Act.put, List.setIfInBounds_toArray, List.set_cons_zero, List.set_cons_succ]
      rfl
    refine done_ (by kernel_rfl) ?_
    go_wp2
    go_ret
    exact ⟨rfl, HW.out⟩
set_option maxRecDepth 100000 in
set_option maxHeartbeats 4000000 in
theorem check_data (mine boot yours seq ack stamp echo : Int) (zr zi : Nat) (A : Option Addr) (n c : Nat) (w : World) (hn : n ≤ 1000) :
    Calls Try.prog 20 #[.agg #[.int .i64 2, .int .u32 mine, .int .u32 boot, .int .u32 yours, .int .u32 seq, .int .u32 ack, .int .u32 stamp, .int .u32 echo, .complex .f64 zr zi, .slice A n c]] w
      fun e w' => e = .returned (.int .i64 (if good2 mine boot yours stamp echo zr zi n = true then 0 else 101)) ∧ Below w.heap.size w w' := by
  have hu27 := Try.underlying27
  have hix := ix2
  cases hg : good2 mine boot yours stamp echo zr zi n
  all_goals
    have HG := Lib.hid hg
    clear hg
    go_enter Try.func20, Try.ntmps20
    go_wp2_with fail
    have HB := Lib.hid (heap_alloc_new w (.cells #[.int .i64 2, .int .u32 mine, .int .u32 boot, .int .u32 yours, .int .u32 seq, .int .u32 ack, .int .u32 stamp, .int .u32 echo, .complex .f64 zr zi, .slice A n c] 27))
    have HW := Lib.hid (bl_drew ((Below.refl w.heap.size w).alloc (Nat.le_refl _) (.cells #[.int .i64 2, .int .u32 mine, .int .u32 boot, .int .u32 yours, .int .u32 seq, .int .u32 ack, .int .u32 stamp, .int .u32 echo, .complex .f64 zr zi, .slice A n c] 27)))
    refine start_ (n := 7) (S := fun w' => w'.heap[w.heap.size]? = some (.cells #[.int .i64 2, .int .u32 mine, .int .u32 boot, .int .u32 yours, .int .u32 seq, .int .u32 ack, .int .u32 stamp, .int .u32 echo, .complex .f64 zr zi, .slice A n c] 27 (0, 0))) (ds := []) #[false, false, false, false, false, false, false] (by kernel_rfl) rfl rfl (HB.out) (fun hHeld => ?_)
    generalize (w.alloc (.cells #[.int .i64 2, .int .u32 mine, .int .u32 boot, .int .u32 yours, .int .u32 seq, .int .u32 ack, .int .u32 stamp, .int .u32 echo, .complex .f64 zr zi, .slice A n c] 27)).drew = w1 at HW hHeld ⊢
    refine take_ (i := 0) (N := some 20) (v := ?_) (a' := ?_) #[true, false, false, false, false, false, false] rfl rfl (by kernel_rfl) (fun _ _ _ h => h) (Or.inl ⟨by rfl, ?_⟩) hHeld ?_ ?_
    rotate_left
    · intro w' s0
      have hc0 : w'.cell? ⟨w.heap.size, 0, none⟩ = some (.int .i64 2) := (blk_cell s0 0).trans rfl
      have hc1 : w'.cell? ⟨w.heap.size, 1, none⟩ = some (.int .u32 mine) := (blk_cell s0 1).trans rfl
      have hc2 : w'.cell? ⟨w.heap.size, 2, none⟩ = some (.int .u32 boot) := (blk_cell s0 2).trans rfl
      have hc3 : w'.cell? ⟨w.heap.size, 3, none⟩ = some (.int .u32 yours) := (blk_cell s0 3).trans rfl
      have hc4 : w'.cell? ⟨w.heap.size, 4, none⟩ = some (.int .u32 seq) := (blk_cell s0 4).trans rfl
      have hc5 : w'.cell? ⟨w.heap.size, 5, none⟩ = some (.int .u32 ack) := (blk_cell s0 5).trans rfl
      have hc6 : w'.cell? ⟨w.heap.size, 6, none⟩ = some (.int .u32 stamp) := (blk_cell s0 6).trans rfl
      have hc7 : w'.cell? ⟨w.heap.size, 7, none⟩ = some (.int .u32 echo) := (blk_cell s0 7).trans rfl
      have hc8 : w'.cell? ⟨w.heap.size, 8, none⟩ = some (.complex .f64 zr zi) := (blk_cell s0 8).trans rfl
      have hc9 : w'.cell? ⟨w.heap.size, 9, none⟩ = some (.slice A n c) := (blk_cell s0 9).trans rfl
      clear s0
      go_simp
      with_reducible rfl
    rotate_left
    · simp only [Act.put, List.setIfInBounds_toArray, List.set_cons_zero, List.set_cons_succ]
      rfl
    refine pure_ (i := 2) (N := some 22) (v := ?_) (a' := ?_) #[true, false, true, false, false, false, false] rfl rfl (by kernel_rfl) (fun _ _ _ h => h) (Or.inl ⟨by rfl, ?_⟩) ?_ ?_
    rotate_left
    · intro w'
      go_simp
      with_reducible rfl
    rotate_left
    · simp only [Act.put, List.setIfInBounds_toArray, List.set_cons_zero, List.set_cons_succ]
      rfl
    refine take_ (i := 3) (N := some 23) (v := ?_) (a' := ?_) #[true, false, true, true, false, false, false] rfl rfl (by kernel_rfl) (fun _ _ _ h => h) (Or.inl ⟨by rfl, ?_⟩) hHeld ?_ ?_
    rotate_left
    · intro w' s0
      have hc0 : w'.cell? ⟨w.heap.size, 0, none⟩ = some (.int .i64 2) := (blk_cell s0 0).trans rfl
      clear s0
      go_simp
      with_reducible rfl
    rotate_left
    · simp only [Act.put, List.setIfInBounds_toArray, List.set_cons_zero, List.set_cons_succ]
      rfl
    refine one_ (i := 1) (N := some 21) #[true, true, true, true, false, false, false] rfl rfl (by kernel_rfl) (by decide) (fun K hK => ?_)
    refine goes_ Try.func59 (by kernel_rfl) rfl #[] (by rfl) rfl rfl (by (try simp only [List.map_toArray, List.map_cons, List.map_nil]); first | done | rfl) ?_
    refine (rows_any _).mono ?_
    rintro e w' ⟨rfl, hb⟩
    refine ⟨_, rfl, ?_⟩
    have HW2 := Lib.hid (HW.out.trans (hb.mono HW.out.size))
    clear HW
    have HW := HW2
    clear HW2
    have hs9 := (hb.block w.heap.size (blk_lt hHeld)).trans hHeld
    clear hb
    refine hK.out _ _ (hs9) (fun hHeld => ?_)
    clear hK K
    refine norm_ (a' := ?_) ?_ ?_
    rotate_left
    · show Act.put _ (some 21) _ = _
      simp only [Act.put, List.setIfInBounds_toArray, List.set_cons_zero, List.set_cons_succ]
      rfl
    refine pure_ (i := 4) (N := some 24) (v := ?_) (a' := ?_) #[true, true, true, true, true, false, false] rfl rfl (by kernel_rfl) (fun _ _ _ h => h) (Or.inl ⟨by rfl, ?_⟩) ?_ ?_
    rotate_left
    · intro w'
      go_simp
      with_reducible rfl
    rotate_left
    · simp only [Act.put, List.setIfInBounds_toArray, List.set_cons_zero, List.set_cons_succ]
      rfl
    refine one_ (i := 5) (N := some 25) #[true, true, true, true, true, true, false] rfl rfl (by kernel_rfl) (by decide) (fun K hK => ?_)
    refine goes_ Try.func66 (by kernel_rfl) rfl #[.agg #[.int .i64 2, .int .u32 mine, .int .u32 boot, .int .u32 yours, .int .u32 seq, .int .u32 ack, .int .u32 stamp, .int .u32 echo, .complex .f64 zr zi, .slice A n c], .agg #[.bool true, .bool true, .bool false, .bool true, .int .i64 22, .int .i64 1021]] (by rfl) rfl rfl (by (try simp only [List.map_toArray, List.map_cons, List.map_nil]); first | done | rfl) ?_
    refine (good_data _ _ _ _ _ _ _ zr zi A n c _).mono ?_
    rintro e w' ⟨rfl, hb⟩
    refine ⟨_, rfl, ?_⟩
    have HW2 := Lib.hid (HW.out.trans (hb.mono HW.out.size))
    clear HW
    have HW := HW2
    clear HW2
    have hs9 := (hb.block w.heap.size (blk_lt hHeld)).trans hHeld
    clear hb
    rw [HG.out]
    refine hK.out _ _ (hs9) (fun hHeld => ?_)
    clear hK K
    refine norm_ (a' := ?_) ?_ ?_
    rotate_left
    · show Act.put _ (some 25) _ = _
      simp only [Act.put, List.setIfInBounds_toArray, List.set_cons_zero, List.set_cons_succ]
      rfl
    refine pure_ (i := 6) (N := some 26) (v := ?_) (a' := ?_) #[true, true, true, true, true, true, true] rfl rfl (by kernel_rfl) (fun _ _ _ h => h) (Or.inl ⟨by rfl, ?_⟩) ?_ ?_
    rotate_left
    · intro w'
      go_simp
      with_reducible rfl
    rotate_left
    · simp only [Act.put, List.setIfInBounds_toArray, List.set_cons_zero, List.set_cons_succ]
      rfl
    refine done_ (by kernel_rfl) ?_
    go_wp2
    go_ret
    exact ⟨rfl, HW.out⟩
set_option maxRecDepth 100000 in
set_option maxHeartbeats 4000000 in
theorem check_ack (mine boot yours seq ack stamp echo : Int) (zr zi : Nat) (A : Option Addr) (n c : Nat) (w : World) :
    Calls Try.prog 20 #[.agg #[.int .i64 3, .int .u32 mine, .int .u32 boot, .int .u32 yours, .int .u32 seq, .int .u32 ack, .int .u32 stamp, .int .u32 echo, .complex .f64 zr zi, .slice A n c]] w
      fun e w' => e = .returned (.int .i64 (if good3 mine boot yours seq stamp echo zr zi n = true then 0 else 101)) ∧ Below w.heap.size w w' := by
  have hu27 := Try.underlying27
  have hix := ix3
  cases hg : good3 mine boot yours seq stamp echo zr zi n
  all_goals
    have HG := Lib.hid hg
    clear hg
    go_enter Try.func20, Try.ntmps20
    go_wp2_with fail
    have HB := Lib.hid (heap_alloc_new w (.cells #[.int .i64 3, .int .u32 mine, .int .u32 boot, .int .u32 yours, .int .u32 seq, .int .u32 ack, .int .u32 stamp, .int .u32 echo, .complex .f64 zr zi, .slice A n c] 27))
    have HW := Lib.hid (bl_drew ((Below.refl w.heap.size w).alloc (Nat.le_refl _) (.cells #[.int .i64 3, .int .u32 mine, .int .u32 boot, .int .u32 yours, .int .u32 seq, .int .u32 ack, .int .u32 stamp, .int .u32 echo, .complex .f64 zr zi, .slice A n c] 27)))
    refine start_ (n := 7) (S := fun w' => w'.heap[w.heap.size]? = some (.cells #[.int .i64 3, .int .u32 mine, .int .u32 boot, .int .u32 yours, .int .u32 seq, .int .u32 ack, .int .u32 stamp, .int .u32 echo, .complex .f64 zr zi, .slice A n c] 27 (0, 0))) (ds := []) #[false, false, false, false, false, false, false] (by kernel_rfl) rfl rfl (HB.out) (fun hHeld => ?_)
    generalize (w.alloc (.cells #[.int .i64 3, .int .u32 mine, .int .u32 boot, .int .u32 yours, .int .u32 seq, .int .u32 ack, .int .u32 stamp, .int .u32 echo, .complex .f64 zr zi, .slice A n c] 27)).drew = w1 at HW hHeld ⊢
    refine take_ (i := 0) (N := some 20) (v := ?_) (a' := ?_) #[true, false, false, false, false, false, false] rfl rfl (by kernel_rfl) (fun _ _ _ h => h) (Or.inl ⟨by rfl, ?_⟩) hHeld ?_ ?_
    rotate_left
    · intro w' s0
      have hc0 : w'.cell? ⟨w.heap.size, 0, none⟩ = some (.int .i64 3) := (blk_cell s0 0).trans rfl
      have hc1 : w'.cell? ⟨w.heap.size, 1, none⟩ = some (.int .u32 mine) := (blk_cell s0 1).trans rfl
      have hc2 : w'.cell? ⟨w.heap.size, 2, none⟩ = some (.int .u32 boot) := (blk_cell s0 2).trans rfl
      have hc3 : w'.cell? ⟨w.heap.size, 3, none⟩ = some (.int .u32 yours) := (blk_cell s0 3).trans rfl
      have hc4 : w'.cell? ⟨w.heap.size, 4, none⟩ = some (.int .u32 seq) := (blk_cell s0 4).trans rfl
      have hc5 : w'.cell? ⟨w.heap.size, 5, none⟩ = some (.int .u32 ack) := (blk_cell s0 5).trans rfl
      have hc6 : w'.cell? ⟨w.heap.size, 6, none⟩ = some (.int .u32 stamp) := (blk_cell s0 6).trans rfl
      have hc7 : w'.cell? ⟨w.heap.size, 7, none⟩ = some (.int .u32 echo) := (blk_cell s0 7).trans rfl
      have hc8 : w'.cell? ⟨w.heap.size, 8, none⟩ = some (.complex .f64 zr zi) := (blk_cell s0 8).trans rfl
      have hc9 : w'.cell? ⟨w.heap.size, 9, none⟩ = some (.slice A n c) := (blk_cell s0 9).trans rfl
      clear s0
      go_simp
      with_reducible rfl
    rotate_left
    · simp only [Act.put, List.setIfInBounds_toArray, List.set_cons_zero, List.set_cons_succ]
      rfl
    refine pure_ (i := 2) (N := some 22) (v := ?_) (a' := ?_) #[true, false, true, false, false, false, false] rfl rfl (by kernel_rfl) (fun _ _ _ h => h) (Or.inl ⟨by rfl, ?_⟩) ?_ ?_
    rotate_left
    · intro w'
      go_simp
      with_reducible rfl
    rotate_left
    · simp only [Act.put, List.setIfInBounds_toArray, List.set_cons_zero, List.set_cons_succ]
      rfl
    refine take_ (i := 3) (N := some 23) (v := ?_) (a' := ?_) #[true, false, true, true, false, false, false] rfl rfl (by kernel_rfl) (fun _ _ _ h => h) (Or.inl ⟨by rfl, ?_⟩) hHeld ?_ ?_
    rotate_left
    · intro w' s0
      have hc0 : w'.cell? ⟨w.heap.size, 0, none⟩ = some (.int .i64 3) := (blk_cell s0 0).trans rfl
      clear s0
      go_simp
      with_reducible rfl
    rotate_left
    · simp only [Act.put, List.setIfInBounds_toArray, List.set_cons_zero, List.set_cons_succ]
      rfl
    refine one_ (i := 1) (N := some 21) #[true, true, true, true, false, false, false] rfl rfl (by kernel_rfl) (by decide) (fun K hK => ?_)
    refine goes_ Try.func59 (by kernel_rfl) rfl #[] (by rfl) rfl rfl (by (try simp only [List.map_toArray, List.map_cons, List.map_nil]); first | done | rfl) ?_
    refine (rows_any _).mono ?_
    rintro e w' ⟨rfl, hb⟩
    refine ⟨_, rfl, ?_⟩
    have HW2 := Lib.hid (HW.out.trans (hb.mono HW.out.size))
    clear HW
    have HW := HW2
    clear HW2
    have hs9 := (hb.block w.heap.size (blk_lt hHeld)).trans hHeld
    clear hb
    refine hK.out _ _ (hs9) (fun hHeld => ?_)
    clear hK K
    refine norm_ (a' := ?_) ?_ ?_
    rotate_left
    · show Act.put _ (some 21) _ = _
      simp only [Act.put, List.setIfInBounds_toArray, List.set_cons_zero, List.set_cons_succ]
      rfl
    refine pure_ (i := 4) (N := some 24) (v := ?_) (a' := ?_) #[true, true, true, true, true, false, false] rfl rfl (by kernel_rfl) (fun _ _ _ h => h) (Or.inl ⟨by rfl, ?_⟩) ?_ ?_
    rotate_left
    · intro w'
      go_simp
      with_reducible rfl
    rotate_left
    · simp only [Act.put, List.setIfInBounds_toArray, List.set_cons_zero, List.set_cons_succ]
      rfl
    refine one_ (i := 5) (N := some 25) #[true, true, true, true, true, true, false] rfl rfl (by kernel_rfl) (by decide) (fun K hK => ?_)
    refine goes_ Try.func66 (by kernel_rfl) rfl #[.agg #[.int .i64 3, .int .u32 mine, .int .u32 boot, .int .u32 yours, .int .u32 seq, .int .u32 ack, .int .u32 stamp, .int .u32 echo, .complex .f64 zr zi, .slice A n c], .agg #[.bool false, .bool true, .bool false, .bool false, .int .i64 17, .int .i64 17]] (by rfl) rfl rfl (by (try simp only [List.map_toArray, List.map_cons, List.map_nil]); first | done | rfl) ?_
    refine (good_ack _ _ _ _ _ _ _ zr zi A n c _).mono ?_
    rintro e w' ⟨rfl, hb⟩
    refine ⟨_, rfl, ?_⟩
    have HW2 := Lib.hid (HW.out.trans (hb.mono HW.out.size))
    clear HW
    have HW := HW2
    clear HW2
    have hs9 := (hb.block w.heap.size (blk_lt hHeld)).trans hHeld
    clear hb
    rw [HG.out]
    refine hK.out _ _ (hs9) (fun hHeld => ?_)
    clear hK K
    refine norm_ (a' := ?_) ?_ ?_
    rotate_left
    · show Act.put _ (some 25) _ = _
      simp only [Act.put, List.setIfInBounds_toArray, List.set_cons_zero, List.set_cons_succ]
      rfl
    refine pure_ (i := 6) (N := some 26) (v := ?_) (a' := ?_) #[true, true, true, true, true, true, true] rfl rfl (by kernel_rfl) (fun _ _ _ h => h) (Or.inl ⟨by rfl, ?_⟩) ?_ ?_
    rotate_left
    · intro w'
      go_simp
      with_reducible rfl
    rotate_left
    · simp only [Act.put, List.setIfInBounds_toArray, List.set_cons_zero, List.set_cons_succ]
      rfl
    refine done_ (by kernel_rfl) ?_
    go_wp2
    go_ret
    exact ⟨rfl, HW.out⟩
set_option maxRecDepth 100000 in
set_option maxHeartbeats 4000000 in
theorem check_beat (mine boot yours seq ack stamp echo : Int) (zr zi : Nat) (A : Option Addr) (n c : Nat) (w : World) (hp : zr < 18446744073709551616) (hq : zi < 18446744073709551616) :
    Calls Try.prog 20 #[.agg #[.int .i64 4, .int .u32 mine, .int .u32 boot, .int .u32 yours, .int .u32 seq, .int .u32 ack, .int .u32 stamp, .int .u32 echo, .complex .f64 zr zi, .slice A n c]] w
      fun e w' => e = .returned (.int .i64 (if good4 mine boot yours seq zr zi n = true then 0 else 101)) ∧ Below w.heap.size w w' := by
  have hu27 := Try.underlying27
  have hix := ix4
  cases hg : good4 mine boot yours seq zr zi n
  all_goals
    have HG := Lib.hid hg
    clear hg
    have HP := Lib.hid hp
    have HQ := Lib.hid hq
    clear hp hq
    go_enter Try.func20, Try.ntmps20
    go_wp2_with fail
    have HB := Lib.hid (heap_alloc_new w (.cells #[.int .i64 4, .int .u32 mine, .int .u32 boot, .int .u32 yours, .int .u32 seq, .int .u32 ack, .int .u32 stamp, .int .u32 echo, .complex .f64 zr zi, .slice A n c] 27))
    have HW := Lib.hid (bl_drew ((Below.refl w.heap.size w).alloc (Nat.le_refl _) (.cells #[.int .i64 4, .int .u32 mine, .int .u32 boot, .int .u32 yours, .int .u32 seq, .int .u32 ack, .int .u32 stamp, .int .u32 echo, .complex .f64 zr zi, .slice A n c] 27)))
    refine start_ (n := 7) (S := fun w' => w'.heap[w.heap.size]? = some (.cells #[.int .i64 4, .int .u32 mine, .int .u32 boot, .int .u32 yours, .int .u32 seq, .int .u32 ack, .int .u32 stamp, .int .u32 echo, .complex .f64 zr zi, .slice A n c] 27 (0, 0))) (ds := []) #[false, false, false, false, false, false, false] (by kernel_rfl) rfl rfl (HB.out) (fun hHeld => ?_)
    generalize (w.alloc (.cells #[.int .i64 4, .int .u32 mine, .int .u32 boot, .int .u32 yours, .int .u32 seq, .int .u32 ack, .int .u32 stamp, .int .u32 echo, .complex .f64 zr zi, .slice A n c] 27)).drew = w1 at HW hHeld ⊢
    refine take_ (i := 0) (N := some 20) (v := ?_) (a' := ?_) #[true, false, false, false, false, false, false] rfl rfl (by kernel_rfl) (fun _ _ _ h => h) (Or.inl ⟨by rfl, ?_⟩) hHeld ?_ ?_
    rotate_left
    · intro w' s0
      have hc0 : w'.cell? ⟨w.heap.size, 0, none⟩ = some (.int .i64 4) := (blk_cell s0 0).trans rfl
      have hc1 : w'.cell? ⟨w.heap.size, 1, none⟩ = some (.int .u32 mine) := (blk_cell s0 1).trans rfl
      have hc2 : w'.cell? ⟨w.heap.size, 2, none⟩ = some (.int .u32 boot) := (blk_cell s0 2).trans rfl
      have hc3 : w'.cell? ⟨w.heap.size, 3, none⟩ = some (.int .u32 yours) := (blk_cell s0 3).trans rfl
      have hc4 : w'.cell? ⟨w.heap.size, 4, none⟩ = some (.int .u32 seq) := (blk_cell s0 4).trans rfl
      have hc5 : w'.cell? ⟨w.heap.size, 5, none⟩ = some (.int .u32 ack) := (blk_cell s0 5).trans rfl
      have hc6 : w'.cell? ⟨w.heap.size, 6, none⟩ = some (.int .u32 stamp) := (blk_cell s0 6).trans rfl
      have hc7 : w'.cell? ⟨w.heap.size, 7, none⟩ = some (.int .u32 echo) := (blk_cell s0 7).trans rfl
      have hc8 : w'.cell? ⟨w.heap.size, 8, none⟩ = some (.complex .f64 zr zi) := (blk_cell s0 8).trans rfl
      have hc9 : w'.cell? ⟨w.heap.size, 9, none⟩ = some (.slice A n c) := (blk_cell s0 9).trans rfl
      clear s0
      go_simp
      with_reducible rfl
    rotate_left
    · simp only [Act.put, List.setIfInBounds_toArray, List.set_cons_zero, List.set_cons_succ]
      rfl
    refine pure_ (i := 2) (N := some 22) (v := ?_) (a' := ?_) #[true, false, true, false, false, false, false] rfl rfl (by kernel_rfl) (fun _ _ _ h => h) (Or.inl ⟨by rfl, ?_⟩) ?_ ?_
    rotate_left
    · intro w'
      go_simp
      with_reducible rfl
    rotate_left
    · simp only [Act.put, List.setIfInBounds_toArray, List.set_cons_zero, List.set_cons_succ]
      rfl
    refine take_ (i := 3) (N := some 23) (v := ?_) (a' := ?_) #[true, false, true, true, false, false, false] rfl rfl (by kernel_rfl) (fun _ _ _ h => h) (Or.inl ⟨by rfl, ?_⟩) hHeld ?_ ?_
    rotate_left
    · intro w' s0
      have hc0 : w'.cell? ⟨w.heap.size, 0, none⟩ = some (.int .i64 4) := (blk_cell s0 0).trans rfl
      clear s0
      go_simp
      with_reducible rfl
    rotate_left
    · simp only [Act.put, List.setIfInBounds_toArray, List.set_cons_zero, List.set_cons_succ]
      rfl
    refine one_ (i := 1) (N := some 21) #[true, true, true, true, false, false, false] rfl rfl (by kernel_rfl) (by decide) (fun K hK => ?_)
    refine goes_ Try.func59 (by kernel_rfl) rfl #[] (by rfl) rfl rfl (by (try simp only [List.map_toArray, List.map_cons, List.map_nil]); first | done | rfl) ?_
    refine (rows_any _).mono ?_
    rintro e w' ⟨rfl, hb⟩
    refine ⟨_, rfl, ?_⟩
    have HW2 := Lib.hid (HW.out.trans (hb.mono HW.out.size))
    clear HW
    have HW := HW2
    clear HW2
    have hs9 := (hb.block w.heap.size (blk_lt hHeld)).trans hHeld
    clear hb
    refine hK.out _ _ (hs9) (fun hHeld => ?_)
    clear hK K
    refine norm_ (a' := ?_) ?_ ?_
    rotate_left
    · show Act.put _ (some 21) _ = _
      simp only [Act.put, List.setIfInBounds_toArray, List.set_cons_zero, List.set_cons_succ]
      rfl
    refine pure_ (i := 4) (N := some 24) (v := ?_) (a' := ?_) #[true, true, true, true, true, false, false] rfl rfl (by kernel_rfl) (fun _ _ _ h => h) (Or.inl ⟨by rfl, ?_⟩) ?_ ?_
    rotate_left
    · intro w'
      go_simp
      with_reducible rfl
    rotate_left
    · simp only [Act.put, List.setIfInBounds_toArray, List.set_cons_zero, List.set_cons_succ]
      rfl
    refine one_ (i := 5) (N := some 25) #[true, true, true, true, true, true, false] rfl rfl (by kernel_rfl) (by decide) (fun K hK => ?_)
    refine goes_ Try.func66 (by kernel_rfl) rfl #[.agg #[.int .i64 4, .int .u32 mine, .int .u32 boot, .int .u32 yours, .int .u32 seq, .int .u32 ack, .int .u32 stamp, .int .u32 echo, .complex .f64 zr zi, .slice A n c], .agg #[.bool false, .bool true, .bool true, .bool false, .int .i64 41, .int .i64 41]] (by rfl) rfl rfl (by (try simp only [List.map_toArray, List.map_cons, List.map_nil]); first | done | rfl) ?_
    refine (good_beat _ _ _ _ _ _ _ zr zi A n c _ HP.out HQ.out).mono ?_
    rintro e w' ⟨rfl, hb⟩
    refine ⟨_, rfl, ?_⟩
    have HW2 := Lib.hid (HW.out.trans (hb.mono HW.out.size))
    clear HW
    have HW := HW2
    clear HW2
    have hs9 := (hb.block w.heap.size (blk_lt hHeld)).trans hHeld
    clear hb
    rw [HG.out]
    refine hK.out _ _ (hs9) (fun hHeld => ?_)
    clear hK K
    refine norm_ (a' := ?_) ?_ ?_
    rotate_left
    · show Act.put _ (some 25) _ = _
      simp only [Act.put, List.setIfInBounds_toArray, List.set_cons_zero, List.set_cons_succ]
      rfl
    refine pure_ (i := 6) (N := some 26) (v := ?_) (a' := ?_) #[true, true, true, true, true, true, true] rfl rfl (by kernel_rfl) (fun _ _ _ h => h) (Or.inl ⟨by rfl, ?_⟩) ?_ ?_
    rotate_left
    · intro w'
      go_simp
      with_reducible rfl
    rotate_left
    · simp only [Act.put, List.setIfInBounds_toArray, List.set_cons_zero, List.set_cons_succ]
      rfl
    refine done_ (by kernel_rfl) ?_
    go_wp2
    go_ret
    exact ⟨rfl, HW.out⟩
/-- What is wrong with a packet of n bytes' body. -/
def checkP (kind mine boot yours seq ack stamp echo : Int) (zr zi n : Nat) : Int :=
  if kind = 1 then (if good1 mine boot yours seq ack stamp echo zr zi n = true then 0 else 101)
  else if kind = 2 then (if 1000 < n then 102 else if good2 mine boot yours stamp echo zr zi n = true then 0 else 101)
  else if kind = 3 then (if good3 mine boot yours seq stamp echo zr zi n = true then 0 else 101)
  else if kind = 4 then (if good4 mine boot yours seq zr zi n = true then 0 else 101)
  else 100
set_option maxRecDepth 100000 in
set_option maxHeartbeats 4000000 in
theorem check_less (kind mine boot yours seq ack stamp echo : Int) (zr zi : Nat) (A : Option Addr) (n c : Nat) (w : World) (h : kind < 1) :
    Calls Try.prog 20 #[.agg #[.int .i64 kind, .int .u32 mine, .int .u32 boot, .int .u32 yours, .int .u32 seq, .int .u32 ack, .int .u32 stamp, .int .u32 echo, .complex .f64 zr zi, .slice A n c]] w
      fun e w' => e = .returned (.int .i64 100) ∧ Below w.heap.size w w' := by
  go_enter Try.func20, Try.ntmps20
  go_wp2
  go_ret
  exact ⟨rfl, (Below.refl w.heap.size w).alloc (Nat.le_refl _) _⟩
set_option maxRecDepth 100000 in
set_option maxHeartbeats 4000000 in
theorem check_more (kind mine boot yours seq ack stamp echo : Int) (zr zi : Nat) (A : Option Addr) (n c : Nat) (w : World) (h : 4 < kind) :
    Calls Try.prog 20 #[.agg #[.int .i64 kind, .int .u32 mine, .int .u32 boot, .int .u32 yours, .int .u32 seq, .int .u32 ack, .int .u32 stamp, .int .u32 echo, .complex .f64 zr zi, .slice A n c]] w
      fun e w' => e = .returned (.int .i64 100) ∧ Below w.heap.size w w' := by
  go_enter Try.func20, Try.ntmps20
  go_wp2
  go_ret
  exact ⟨rfl, (Below.refl w.heap.size w).alloc (Nat.le_refl _) _⟩
set_option maxRecDepth 100000 in
set_option maxHeartbeats 4000000 in
theorem check_long (mine boot yours seq ack stamp echo : Int) (zr zi : Nat) (A : Option Addr) (n c : Nat) (w : World) (h : 1000 < n) :
    Calls Try.prog 20 #[.agg #[.int .i64 2, .int .u32 mine, .int .u32 boot, .int .u32 yours, .int .u32 seq, .int .u32 ack, .int .u32 stamp, .int .u32 echo, .complex .f64 zr zi, .slice A n c]] w
      fun e w' => e = .returned (.int .i64 102) ∧ Below w.heap.size w w' := by
  go_enter Try.func20, Try.ntmps20
  go_wp2
  go_ret
  exact ⟨rfl, (Below.refl w.heap.size w).alloc (Nat.le_refl _) _⟩
theorem check_any (kind mine boot yours seq ack stamp echo : Int) (zr zi : Nat) (A : Option Addr) (n c : Nat) (w : World) (hp : zr < 18446744073709551616) (hq : zi < 18446744073709551616) :
    Calls Try.prog 20 #[.agg #[.int .i64 kind, .int .u32 mine, .int .u32 boot, .int .u32 yours, .int .u32 seq, .int .u32 ack, .int .u32 stamp, .int .u32 echo, .complex .f64 zr zi, .slice A n c]] w
      fun e w' => e = .returned (.int .i64 (checkP kind mine boot yours seq ack stamp echo zr zi n)) ∧ Below w.heap.size w w' := by
  unfold checkP
  by_cases h1 : kind = 1
  · subst h1
    rw [if_pos rfl]
    exact check_hello mine boot yours seq ack stamp echo zr zi A n c w
  rw [if_neg h1]
  by_cases h2 : kind = 2
  · subst h2
    rw [if_pos rfl]
    by_cases hn : 1000 < n
    · rw [if_pos hn]
      exact check_long mine boot yours seq ack stamp echo zr zi A n c w hn
    · rw [if_neg hn]
      exact check_data mine boot yours seq ack stamp echo zr zi A n c w (by omega)
  rw [if_neg h2]
  by_cases h3 : kind = 3
  · subst h3
    rw [if_pos rfl]
    exact check_ack mine boot yours seq ack stamp echo zr zi A n c w
  rw [if_neg h3]
  by_cases h4 : kind = 4
  · subst h4
    rw [if_pos rfl]
    exact check_beat mine boot yours seq ack stamp echo zr zi A n c w hp hq
  rw [if_neg h4]
  by_cases h5 : kind < 1
  · exact check_less kind mine boot yours seq ack stamp echo zr zi A n c w h5
  · exact check_more kind mine boot yours seq ack stamp echo zr zi A n c w (by omega)
end Go.Proofs.Ytnkkgofpifhoeaa.Pk
