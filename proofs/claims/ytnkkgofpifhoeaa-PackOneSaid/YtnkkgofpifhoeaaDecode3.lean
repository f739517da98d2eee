/- The packet that bytes are: pack.Decode, at bytes that begin with 3; for all such bytes. -/
import Derived.Test.YtnkkgofpifhoeaaBits
import Derived.Test.YtnkkgofpifhoeaaSteps
namespace Go.Proofs.Ytnkkgofpifhoeaa.Pk3
open Go.RowKit Go.Proofs.Ytnkkgofpifhoeaa.Base Go.Proofs.Ytnkkgofpifhoeaa.Pk Go.Proofs.YtnkkgofpifhoeaaW.PrintWords Go.Proofs.YtnkkgofpifhoeaaW.PrintLast Go.Proofs.Ytnkkgofpifhoeaa.Steps
set_option linter.unusedSimpArgs false
set_option linter.unusedVariables false
theorem ixu3 (w : World) : (Instr.index 108 table (.int .u8 3)).run Try.prog w = .ok (.agg #[.bool false, .bool true, .bool false, .bool false, .int .i64 17, .int .i64 17]) w := by kernel_rfl
theorem bz27 (w : World) : (Instr.build 27 #[]).run Try.prog w = .ok (.agg #[.int .i64 0, .int .u32 0, .int .u32 0, .int .u32 0, .int .u32 0, .int .u32 0, .int .u32 0, .int .u32 0, .complex .f64 0 0, .slice none 0 0]) w := by kernel_rfl
theorem al27 (w : World) (v : Value) : (Instr.alloc 27 true v).run Try.prog w = .ok (.pointer (some ⟨w.heap.size, 0, none⟩)) (w.alloc (.cells #[.int .i64 0, .int .u32 0, .int .u32 0, .int .u32 0, .int .u32 0, .int .u32 0, .int .u32 0, .int .u32 0, .complex .f64 0 0, .slice none 0 0] 27)) := by kernel_rfl
theorem cell_alloc_of {w : World} {a : Addr} {v : Value} (h : w.cell? a = some v) (o : Obj) : (w.alloc o).cell? a = some v := (World.cell?_alloc_lt _ _ _ (World.block_lt_of_cell? _ _ h)).trans h
set_option maxRecDepth 100000 in
set_option maxHeartbeats 4000000 in
theorem decode_short (ad : Addr) (n c : Nat) (l : List Int) (w : World) (hC : Kd.C (Kd.int .u8) w (some ad) l.length l) (hn : l.length = n) (hk : rd l 0 = 3) (h0 : 0 < n) (hl : n < 17) :
    Calls Try.prog 16 #[.slice (some ad) n c] w
      fun e w' => e = .returned (.tuple #[.agg #[.int .i64 0, .int .u32 0, .int .u32 0, .int .u32 0, .int .u32 0, .int .u32 0, .int .u32 0, .int .u32 0, .complex .f64 0 0, .slice none 0 0], .int .i64 103]) ∧ Below w.heap.size w w' := by
  have hu27 := Try.underlying27
  have hbz := bz27
  have hal := al27
  have hu107 := Try.underlying107
  have hix := ixu3
  have hne : ((n : Int) == 0) = false := beq_eq_false_iff_ne.2 (by omega)
  obtain ⟨_, e0, hx0⟩ := Kd.at_int hC 0 (by omega) (by omega)
  cases e0
  rw [hk] at hx0
  have ha0 : ad.add (0 : Int).toNat = ad := by simp [Addr.add]
  rw [ha0] at hx0
  have hx1 := fun o => cell_alloc_of hx0 o
  have HC := Lib.hid hC
  have HN := Lib.hid hn
  clear hC hk hn ha0
  go_enter Try.func16, Try.ntmps16
  go_wp2_with fail
  have HP := Lib.hid (show (w.alloc (.cells #[.int .i64 0, .int .u32 0, .int .u32 0, .int .u32 0, .int .u32 0, .int .u32 0, .int .u32 0, .int .u32 0, .complex .f64 0 0, .slice none 0 0] 27)).drew.heap[w.heap.size]? = some (.cells #[.int .i64 0, .int .u32 0, .int .u32 0, .int .u32 0, .int .u32 0, .int .u32 0, .int .u32 0, .int .u32 0, .complex .f64 0 0, .slice none 0 0] 27 (0, 0)) from heap_alloc_new w _)
  have HW := Lib.hid (bl_drew ((Below.refl w.heap.size w).alloc (Nat.le_refl _) (.cells #[.int .i64 0, .int .u32 0, .int .u32 0, .int .u32 0, .int .u32 0, .int .u32 0, .int .u32 0, .int .u32 0, .complex .f64 0 0, .slice none 0 0] 27)))
  refine start_ (n := 7) (S := fun w' => w'.cell? ad = some (.int .u8 3)) (ds := []) #[false, false, false, false, false, false, false] (by kernel_rfl) rfl rfl (hx1 _) (fun hHeld => ?_)
  generalize (w.alloc (.cells #[.int .i64 0, .int .u32 0, .int .u32 0, .int .u32 0, .int .u32 0, .int .u32 0, .int .u32 0, .int .u32 0, .complex .f64 0 0, .slice none 0 0] 27)).drew = w1 at HW HP hHeld ⊢
  refine pure_ (i := 1) (N := some 25) (v := ?_) (a' := ?_) #[false, true, false, false, false, false, false] rfl rfl (by kernel_rfl) (fun _ _ _ h => h) (Or.inl ⟨by rfl, ?_⟩) ?_ ?_
  rotate_left
  · intro w'
    go_simp
    with_reducible rfl
  rotate_left
  · simp only [Act.put, List.setIfInBounds_toArray, List.set_cons_zero, List.set_cons_succ]
    rfl
  refine pure_ (i := 2) (N := some 26) (v := ?_) (a' := ?_) #[false, true, true, false, false, false, false] rfl rfl (by kernel_rfl) (fun _ _ _ h => h) (Or.inl ⟨by rfl, ?_⟩) ?_ ?_
  rotate_left
  · intro w'
    go_simp
    with_reducible rfl
  rotate_left
  · simp only [Act.put, List.setIfInBounds_toArray, List.set_cons_zero, List.set_cons_succ]
    rfl
  refine take_ (i := 3) (N := some 27) (v := ?_) (a' := ?_) #[false, true, true, true, false, false, false] rfl rfl (by kernel_rfl) (fun _ _ _ h => h) (Or.inl ⟨by rfl, ?_⟩) hHeld ?_ ?_
  rotate_left
  · intro w' s0
    go_simp
    with_reducible rfl
  rotate_left
  · simp only [Act.put, List.setIfInBounds_toArray, List.set_cons_zero, List.set_cons_succ]
    rfl
  refine join_ (σ := Nat) 1 #[true, true, true, true, true, true, false] (fun g => [(24, table), (28, .agg #[.bool false, .bool true, .bool false, .bool false, .int .i64 17, .int .i64 17]), (4, .pointer (some ⟨g, 0, none⟩))]) (fun g w' => w'.heap[g]? = some (.cells #[.bool false, .bool false, .bool false, .bool false, .int .i64 0, .int .i64 0] 107 (0, 0)) ∧ Below w.heap.size w w' ∧ w.heap.size < g ∧ w'.heap[w.heap.size]? = some (.cells #[.int .i64 0, .int .u32 0, .int .u32 0, .int .u32 0, .int .u32 0, .int .u32 0, .int .u32 0, .int .u32 0, .complex .f64 0 0, .slice none 0 0] 27 (0, 0)) ∧ w'.cell? ad = some (.int .u8 3)) ?_ ?_
  rotate_left
  · intro hcont
    refine two_ (i := 0) (j := 5) (Ni := some 24) (Nj := some 4) #[true, true, true, true, false, false, false] #[false, true, true, true, false, true, false] rfl rfl rfl rfl (by kernel_rfl) (by decide) (by decide) (fun K hK => ?_) (fun K hK => ?_)
    · skip
      refine goes_ Try.func59 (by kernel_rfl) rfl #[] (by rfl) rfl rfl (by (try simp only [List.map_toArray, List.map_cons, List.map_nil]); first | done | rfl) ?_
      refine (rows_any _).mono ?_
      rintro e w2 ⟨rfl, hb⟩
      refine ⟨_, rfl, ?_⟩
      have hH2 := (hb.cell (World.block_lt_of_cell? _ _ hHeld)).trans hHeld
      have HW2 := Lib.hid (HW.out.trans (hb.mono HW.out.size))
      have HP2 := Lib.hid ((hb.block w.heap.size (blk_lt HP.out)).trans HP.out)
      refine hK.out _ _ hH2 (fun hHeld => ?_)
      clear hK K
      refine norm_ (a' := ?_) ?_ ?_
      rotate_left
      · show Act.put _ (some 24) _ = _
        simp only [Act.put, List.setIfInBounds_toArray, List.set_cons_zero, List.set_cons_succ]
        rfl
      refine pure_ (i := 4) (N := some 28) (v := ?_) (a' := ?_) #[true, true, true, true, true, false, false] rfl rfl (by kernel_rfl) (fun _ _ _ h => h) (Or.inl ⟨by rfl, ?_⟩) ?_ ?_
      rotate_left
      · intro w'
        go_simp
        with_reducible rfl
      rotate_left
      · simp only [Act.put, List.setIfInBounds_toArray, List.set_cons_zero, List.set_cons_succ]
        rfl
      refine one_ (i := 5) (N := some 4) #[true, true, true, true, true, true, false] rfl rfl (by kernel_rfl) (by decide) (fun K hK => ?_)
      refine box_step (by rfl) (N := 4) rfl (cs := #[.bool false, .bool false, .bool false, .bool false, .int .i64 0, .int .i64 0]) (t := 107) (by first | (go_simp; done) | (go_simp; rfl)) ?_
      intro g hg w3 hbx hb3
      have hH3 := (hb3.cell (World.block_lt_of_cell? _ _ hHeld)).trans hHeld
      have hgt : w.heap.size < g := by have := blk_lt HP2.out; omega
      have HW3 := Lib.hid (HW2.out.trans (hb3.mono HW2.out.size))
      have HP3 := Lib.hid ((hb3.block w.heap.size (blk_lt HP2.out)).trans HP2.out)
      refine hK.out _ _ hH3 (fun hHeld => ?_)
      clear hK K
      have h9 := hcont g w3 ⟨hbx, HW3.out, hgt, HP3.out, hHeld⟩
      simp only [putAll, Act.put, List.setIfInBounds_toArray, List.set_cons_zero, List.set_cons_succ] at h9
      refine norm_ (a' := ?_) ?_ ?_
      rotate_left
      · show Act.put _ (some 4) _ = _
        simp only [Act.put, List.setIfInBounds_toArray, List.set_cons_zero, List.set_cons_succ]
        rfl
      exact h9
    · skip
      refine box_step (by rfl) (N := 4) rfl (cs := #[.bool false, .bool false, .bool false, .bool false, .int .i64 0, .int .i64 0]) (t := 107) (by first | (go_simp; done) | (go_simp; rfl)) ?_
      intro g hg w3 hbx hb3
      have hH3 := (hb3.cell (World.block_lt_of_cell? _ _ hHeld)).trans hHeld
      have hgt : w.heap.size < g := by have := blk_lt HP.out; omega
      have HW9 := Lib.hid (HW.out.trans (hb3.mono HW.out.size))
      have HP9 := Lib.hid ((hb3.block w.heap.size (blk_lt HP.out)).trans HP.out)
      refine hK.out _ _ hH3 (fun hHeld => ?_)
      clear hK K
      clear HW HP
      have HW := HW9
      have HP := HP9
      clear HW9 HP9
      refine norm_ (a' := ?_) ?_ ?_
      rotate_left
      · show Act.put _ (some 4) _ = _
        simp only [Act.put, List.setIfInBounds_toArray, List.set_cons_zero, List.set_cons_succ]
        rfl
      refine one_ (i := 0) (N := some 24) #[true, true, true, true, false, true, false] rfl rfl (by kernel_rfl) (by decide) (fun K hK => ?_)
      refine goes_ Try.func59 (by kernel_rfl) rfl #[] (by rfl) rfl rfl (by (try simp only [List.map_toArray, List.map_cons, List.map_nil]); first | done | rfl) ?_
      refine (rows_any _).mono ?_
      rintro e w2 ⟨rfl, hb⟩
      refine ⟨_, rfl, ?_⟩
      have hH2 := (hb.cell (World.block_lt_of_cell? _ _ hHeld)).trans hHeld
      have HW2 := Lib.hid (HW.out.trans (hb.mono HW.out.size))
      have HP2 := Lib.hid ((hb.block w.heap.size (blk_lt HP.out)).trans HP.out)
      have hbx2 := (hb.block g (blk_lt hbx)).trans hbx
      refine hK.out _ _ hH2 (fun hHeld => ?_)
      clear hK K
      refine norm_ (a' := ?_) ?_ ?_
      rotate_left
      · show Act.put _ (some 24) _ = _
        simp only [Act.put, List.setIfInBounds_toArray, List.set_cons_zero, List.set_cons_succ]
        rfl
      refine pure_ (i := 4) (N := some 28) (v := ?_) (a' := ?_) #[true, true, true, true, true, true, false] rfl rfl (by kernel_rfl) (fun _ _ _ h => h) (Or.inl ⟨by rfl, ?_⟩) ?_ ?_
      rotate_left
      · intro w'
        go_simp
        with_reducible rfl
      rotate_left
      · simp only [Act.put, List.setIfInBounds_toArray, List.set_cons_zero, List.set_cons_succ]
        rfl
      have h9 := hcont g w2 ⟨hbx2, HW2.out, hgt, HP2.out, hHeld⟩
      simp only [putAll, Act.put, List.setIfInBounds_toArray, List.set_cons_zero, List.set_cons_succ] at h9
      exact h9
  intro g w2 ⟨hbx, hbel, hgt, hpz, hHeld⟩
  clear HW HP
  refine norm_ (a' := ?_) ?_ ?_
  rotate_left
  · show putAll _ _ = _
    simp only [putAll, Act.put, List.setIfInBounds_toArray, List.set_cons_zero, List.set_cons_succ]
    rfl
  have hc0 : w2.cell? ⟨g, 0, none⟩ = some (.bool false) := (blk_cell hbx 0).trans rfl
  have hf0 := blk_frozen hbx 0
  have hc1 : w2.cell? ⟨g, 1, none⟩ = some (.bool false) := (blk_cell hbx 1).trans rfl
  have hf1 := blk_frozen hbx 1
  have hc2 : w2.cell? ⟨g, 2, none⟩ = some (.bool false) := (blk_cell hbx 2).trans rfl
  have hf2 := blk_frozen hbx 2
  have hc3 : w2.cell? ⟨g, 3, none⟩ = some (.bool false) := (blk_cell hbx 3).trans rfl
  have hf3 := blk_frozen hbx 3
  have hc4 : w2.cell? ⟨g, 4, none⟩ = some (.int .i64 0) := (blk_cell hbx 4).trans rfl
  have hf4 := blk_frozen hbx 4
  have hc5 : w2.cell? ⟨g, 5, none⟩ = some (.int .i64 0) := (blk_cell hbx 5).trans rfl
  have hf5 := blk_frozen hbx 5
  refine one_ (i := 6) (N := none) #[true, true, true, true, true, true, true] rfl rfl (by kernel_rfl) (by decide) (fun K hK => ?_)
  refine skip_F (fun w4 => w4.heap[g]? = some (.cells #[.bool false, .bool true, .bool false, .bool false, .int .i64 17, .int .i64 17] 107 (0, 0)) ∧ At g w2 w4) (by rfl) rfl ⟨_, by go_simp; rfl, ?_, ?_⟩ (fun w4 hF => ?_)
  · skip
    refine blk_put (cs := #[.bool false, .bool true, .bool false, .bool false, .int .i64 17, .int .i64 0]) ?_ 5 _ rfl
    refine blk_put (cs := #[.bool false, .bool true, .bool false, .bool false, .int .i64 0, .int .i64 0]) ?_ 4 _ rfl
    refine blk_put (cs := #[.bool false, .bool true, .bool false, .bool false, .int .i64 0, .int .i64 0]) ?_ 3 _ rfl
    refine blk_put (cs := #[.bool false, .bool true, .bool false, .bool false, .int .i64 0, .int .i64 0]) ?_ 2 _ rfl
    refine blk_put (cs := #[.bool false, .bool false, .bool false, .bool false, .int .i64 0, .int .i64 0]) ?_ 1 _ rfl
    refine blk_put (cs := #[.bool false, .bool false, .bool false, .bool false, .int .i64 0, .int .i64 0]) ?_ 0 _ rfl
    exact hbx
  · repeat (first | (with_reducible exact At.refl _ _) | refine At.set ?_ _ _)
  obtain ⟨hbx4, hat⟩ := hF
  have hx4 : w4.cell? ad = some (.int .u8 3) := (hat.cell (by have := World.block_lt_of_cell? _ _ hx0; omega)).trans hHeld
  have hbel4 := Lib.hid (hat.below hbel (by omega))
  have hpz4 := Lib.hid ((hat.block w.heap.size (by omega)).trans hpz)
  have hbx5 := Lib.hid hbx4
  clear hbx hbel hpz hat hHeld hbx4 hc0 hf0 hc1 hf1 hc2 hf2 hc3 hf3 hc4 hf4 hc5 hf5
  refine hK.out _ _ hx4 (fun hHeld => ?_)
  clear hK K
  refine done_ (by kernel_rfl) ?_
  have hc4 : w4.cell? ⟨g, 4, none⟩ = some (.int .i64 17) := (blk_cell hbx5.out 4).trans rfl
  have hc5 : w4.cell? ⟨g, 5, none⟩ = some (.int .i64 17) := (blk_cell hbx5.out 5).trans rfl
  go_wp2_with (((with_reducible refine gate_ (.store 27 (.tmp 2) (.tmp 34)) rfl ?_); refine store_row_F rfl rfl 27 (.tmp 2) (.tmp 34) rfl w.heap.size _ rfl rfl 27 _ hpz4.out (by kernel_rfl) rfl (by kernel_rfl) ?_; intro w5 hb5 hat5; have HB5 := Lib.hid hb5; have HAT5 := Lib.hid hat5; clear hb5 hat5))
  refine bodyPost_ret (v := .tuple #[.agg #[.int .i64 0, .int .u32 0, .int .u32 0, .int .u32 0, .int .u32 0, .int .u32 0, .int .u32 0, .int .u32 0, .complex .f64 0 0, .slice none 0 0], .int .i64 103]) ?_ rfl ⟨rfl, HAT5.out.below hbel4.out (Nat.le_refl _)⟩
  have hl5 := run_loadVar_row (P := Try.prog) w5 w.heap.size 27 27 _ (0, 0) _ HB5.out Try.underlying27 rfl (by kernel_rfl)
  exact results_cell2 Try.results16 _ _ rfl rfl hl5
set_option maxRecDepth 100000 in
set_option maxHeartbeats 4000000 in
theorem decode_long (ad : Addr) (n c : Nat) (l : List Int) (w : World) (hC : Kd.C (Kd.int .u8) w (some ad) l.length l) (hn : l.length = n) (hk : rd l 0 = 3) (h0 : 0 < n) (hl : 17 < n) :
    Calls Try.prog 16 #[.slice (some ad) n c] w
      fun e w' => e = .returned (.tuple #[.agg #[.int .i64 0, .int .u32 0, .int .u32 0, .int .u32 0, .int .u32 0, .int .u32 0, .int .u32 0, .int .u32 0, .complex .f64 0 0, .slice none 0 0], .int .i64 102]) ∧ Below w.heap.size w w' := by
  have hu27 := Try.underlying27
  have hbz := bz27
  have hal := al27
  have hu107 := Try.underlying107
  have hix := ixu3
  have hne : ((n : Int) == 0) = false := beq_eq_false_iff_ne.2 (by omega)
  obtain ⟨_, e0, hx0⟩ := Kd.at_int hC 0 (by omega) (by omega)
  cases e0
  rw [hk] at hx0
  have ha0 : ad.add (0 : Int).toNat = ad := by simp [Addr.add]
  rw [ha0] at hx0
  have hx1 := fun o => cell_alloc_of hx0 o
  have HC := Lib.hid hC
  have HN := Lib.hid hn
  clear hC hk hn ha0
  go_enter Try.func16, Try.ntmps16
  go_wp2_with fail
  have HP := Lib.hid (show (w.alloc (.cells #[.int .i64 0, .int .u32 0, .int .u32 0, .int .u32 0, .int .u32 0, .int .u32 0, .int .u32 0, .int .u32 0, .complex .f64 0 0, .slice none 0 0] 27)).drew.heap[w.heap.size]? = some (.cells #[.int .i64 0, .int .u32 0, .int .u32 0, .int .u32 0, .int .u32 0, .int .u32 0, .int .u32 0, .int .u32 0, .complex .f64 0 0, .slice none 0 0] 27 (0, 0)) from heap_alloc_new w _)
  have HW := Lib.hid (bl_drew ((Below.refl w.heap.size w).alloc (Nat.le_refl _) (.cells #[.int .i64 0, .int .u32 0, .int .u32 0, .int .u32 0, .int .u32 0, .int .u32 0, .int .u32 0, .int .u32 0, .complex .f64 0 0, .slice none 0 0] 27)))
  refine start_ (n := 7) (S := fun w' => w'.cell? ad = some (.int .u8 3)) (ds := []) #[false, false, false, false, false, false, false] (by kernel_rfl) rfl rfl (hx1 _) (fun hHeld => ?_)
  generalize (w.alloc (.cells #[.int .i64 0, .int .u32 0, .int .u32 0, .int .u32 0, .int .u32 0, .int .u32 0, .int .u32 0, .int .u32 0, .complex .f64 0 0, .slice none 0 0] 27)).drew = w1 at HW HP hHeld ⊢
  refine pure_ (i := 1) (N := some 25) (v := ?_) (a' := ?_) #[false, true, false, false, false, false, false] rfl rfl (by kernel_rfl) (fun _ _ _ h => h) (Or.inl ⟨by rfl, ?_⟩) ?_ ?_
  rotate_left
  · intro w'
    go_simp
    with_reducible rfl
  rotate_left
  · simp only [Act.put, List.setIfInBounds_toArray, List.set_cons_zero, List.set_cons_succ]
    rfl
  refine pure_ (i := 2) (N := some 26) (v := ?_) (a' := ?_) #[false, true, true, false, false, false, false] rfl rfl (by kernel_rfl) (fun _ _ _ h => h) (Or.inl ⟨by rfl, ?_⟩) ?_ ?_
  rotate_left
  · intro w'
    go_simp
    with_reducible rfl
  rotate_left
  · simp only [Act.put, List.setIfInBounds_toArray, List.set_cons_zero, List.set_cons_succ]
    rfl
  refine take_ (i := 3) (N := some 27) (v := ?_) (a' := ?_) #[false, true, true, true, false, false, false] rfl rfl (by kernel_rfl) (fun _ _ _ h => h) (Or.inl ⟨by rfl, ?_⟩) hHeld ?_ ?_
  rotate_left
  · intro w' s0
    go_simp
    with_reducible rfl
  rotate_left
  · simp only [Act.put, List.setIfInBounds_toArray, List.set_cons_zero, List.set_cons_succ]
    rfl
  refine join_ (σ := Nat) 1 #[true, true, true, true, true, true, false] (fun g => [(24, table), (28, .agg #[.bool false, .bool true, .bool false, .bool false, .int .i64 17, .int .i64 17]), (4, .pointer (some ⟨g, 0, none⟩))]) (fun g w' => w'.heap[g]? = some (.cells #[.bool false, .bool false, .bool false, .bool false, .int .i64 0, .int .i64 0] 107 (0, 0)) ∧ Below w.heap.size w w' ∧ w.heap.size < g ∧ w'.heap[w.heap.size]? = some (.cells #[.int .i64 0, .int .u32 0, .int .u32 0, .int .u32 0, .int .u32 0, .int .u32 0, .int .u32 0, .int .u32 0, .complex .f64 0 0, .slice none 0 0] 27 (0, 0)) ∧ w'.cell? ad = some (.int .u8 3)) ?_ ?_
  rotate_left
  · intro hcont
    refine two_ (i := 0) (j := 5) (Ni := some 24) (Nj := some 4) #[true, true, true, true, false, false, false] #[false, true, true, true, false, true, false] rfl rfl rfl rfl (by kernel_rfl) (by decide) (by decide) (fun K hK => ?_) (fun K hK => ?_)
    · skip
      refine goes_ Try.func59 (by kernel_rfl) rfl #[] (by rfl) rfl rfl (by (try simp only [List.map_toArray, List.map_cons, List.map_nil]); first | done | rfl) ?_
      refine (rows_any _).mono ?_
      rintro e w2 ⟨rfl, hb⟩
      refine ⟨_, rfl, ?_⟩
      have hH2 := (hb.cell (World.block_lt_of_cell? _ _ hHeld)).trans hHeld
      have HW2 := Lib.hid (HW.out.trans (hb.mono HW.out.size))
      have HP2 := Lib.hid ((hb.block w.heap.size (blk_lt HP.out)).trans HP.out)
      refine hK.out _ _ hH2 (fun hHeld => ?_)
      clear hK K
      refine norm_ (a' := ?_) ?_ ?_
      rotate_left
      · show Act.put _ (some 24) _ = _
        simp only [Act.put, List.setIfInBounds_toArray, List.set_cons_zero, List.set_cons_succ]
        rfl
      refine pure_ (i := 4) (N := some 28) (v := ?_) (a' := ?_) #[true, true, true, true, true, false, false] rfl rfl (by kernel_rfl) (fun _ _ _ h => h) (Or.inl ⟨by rfl, ?_⟩) ?_ ?_
      rotate_left
      · intro w'
        go_simp
        with_reducible rfl
      rotate_left
      · simp only [Act.put, List.setIfInBounds_toArray, List.set_cons_zero, List.set_cons_succ]
        rfl
      refine one_ (i := 5) (N := some 4) #[true, true, true, true, true, true, false] rfl rfl (by kernel_rfl) (by decide) (fun K hK => ?_)
      refine box_step (by rfl) (N := 4) rfl (cs := #[.bool false, .bool false, .bool false, .bool false, .int .i64 0, .int .i64 0]) (t := 107) (by first | (go_simp; done) | (go_simp; rfl)) ?_
      intro g hg w3 hbx hb3
      have hH3 := (hb3.cell (World.block_lt_of_cell? _ _ hHeld)).trans hHeld
      have hgt : w.heap.size < g := by have := blk_lt HP2.out; omega
      have HW3 := Lib.hid (HW2.out.trans (hb3.mono HW2.out.size))
      have HP3 := Lib.hid ((hb3.block w.heap.size (blk_lt HP2.out)).trans HP2.out)
      refine hK.out _ _ hH3 (fun hHeld => ?_)
      clear hK K
      have h9 := hcont g w3 ⟨hbx, HW3.out, hgt, HP3.out, hHeld⟩
      simp only [putAll, Act.put, List.setIfInBounds_toArray, List.set_cons_zero, List.set_cons_succ] at h9
      refine norm_ (a' := ?_) ?_ ?_
      rotate_left
      · show Act.put _ (some 4) _ = _
        simp only [Act.put, List.setIfInBounds_toArray, List.set_cons_zero, List.set_cons_succ]
        rfl
      exact h9
    · skip
      refine box_step (by rfl) (N := 4) rfl (cs := #[.bool false, .bool false, .bool false, .bool false, .int .i64 0, .int .i64 0]) (t := 107) (by first | (go_simp; done) | (go_simp; rfl)) ?_
      intro g hg w3 hbx hb3
      have hH3 := (hb3.cell (World.block_lt_of_cell? _ _ hHeld)).trans hHeld
      have hgt : w.heap.size < g := by have := blk_lt HP.out; omega
      have HW9 := Lib.hid (HW.out.trans (hb3.mono HW.out.size))
      have HP9 := Lib.hid ((hb3.block w.heap.size (blk_lt HP.out)).trans HP.out)
      refine hK.out _ _ hH3 (fun hHeld => ?_)
      clear hK K
      clear HW HP
      have HW := HW9
      have HP := HP9
      clear HW9 HP9
      refine norm_ (a' := ?_) ?_ ?_
      rotate_left
      · show Act.put _ (some 4) _ = _
        simp only [Act.put, List.setIfInBounds_toArray, List.set_cons_zero, List.set_cons_succ]
        rfl
      refine one_ (i := 0) (N := some 24) #[true, true, true, true, false, true, false] rfl rfl (by kernel_rfl) (by decide) (fun K hK => ?_)
      refine goes_ Try.func59 (by kernel_rfl) rfl #[] (by rfl) rfl rfl (by (try simp only [List.map_toArray, List.map_cons, List.map_nil]); first | done | rfl) ?_
      refine (rows_any _).mono ?_
      rintro e w2 ⟨rfl, hb⟩
      refine ⟨_, rfl, ?_⟩
      have hH2 := (hb.cell (World.block_lt_of_cell? _ _ hHeld)).trans hHeld
      have HW2 := Lib.hid (HW.out.trans (hb.mono HW.out.size))
      have HP2 := Lib.hid ((hb.block w.heap.size (blk_lt HP.out)).trans HP.out)
      have hbx2 := (hb.block g (blk_lt hbx)).trans hbx
      refine hK.out _ _ hH2 (fun hHeld => ?_)
      clear hK K
      refine norm_ (a' := ?_) ?_ ?_
      rotate_left
      · show Act.put _ (some 24) _ = _
        simp only [Act.put, List.setIfInBounds_toArray, List.set_cons_zero, List.set_cons_succ]
        rfl
      refine pure_ (i := 4) (N := some 28) (v := ?_) (a' := ?_) #[true, true, true, true, true, true, false] rfl rfl (by kernel_rfl) (fun _ _ _ h => h) (Or.inl ⟨by rfl, ?_⟩) ?_ ?_
      rotate_left
      · intro w'
        go_simp
        with_reducible rfl
      rotate_left
      · simp only [Act.put, List.setIfInBounds_toArray, List.set_cons_zero, List.set_cons_succ]
        rfl
      have h9 := hcont g w2 ⟨hbx2, HW2.out, hgt, HP2.out, hHeld⟩
      simp only [putAll, Act.put, List.setIfInBounds_toArray, List.set_cons_zero, List.set_cons_succ] at h9
      exact h9
  intro g w2 ⟨hbx, hbel, hgt, hpz, hHeld⟩
  clear HW HP
  refine norm_ (a' := ?_) ?_ ?_
  rotate_left
  · show putAll _ _ = _
    simp only [putAll, Act.put, List.setIfInBounds_toArray, List.set_cons_zero, List.set_cons_succ]
    rfl
  have hc0 : w2.cell? ⟨g, 0, none⟩ = some (.bool false) := (blk_cell hbx 0).trans rfl
  have hf0 := blk_frozen hbx 0
  have hc1 : w2.cell? ⟨g, 1, none⟩ = some (.bool false) := (blk_cell hbx 1).trans rfl
  have hf1 := blk_frozen hbx 1
  have hc2 : w2.cell? ⟨g, 2, none⟩ = some (.bool false) := (blk_cell hbx 2).trans rfl
  have hf2 := blk_frozen hbx 2
  have hc3 : w2.cell? ⟨g, 3, none⟩ = some (.bool false) := (blk_cell hbx 3).trans rfl
  have hf3 := blk_frozen hbx 3
  have hc4 : w2.cell? ⟨g, 4, none⟩ = some (.int .i64 0) := (blk_cell hbx 4).trans rfl
  have hf4 := blk_frozen hbx 4
  have hc5 : w2.cell? ⟨g, 5, none⟩ = some (.int .i64 0) := (blk_cell hbx 5).trans rfl
  have hf5 := blk_frozen hbx 5
  refine one_ (i := 6) (N := none) #[true, true, true, true, true, true, true] rfl rfl (by kernel_rfl) (by decide) (fun K hK => ?_)
  refine skip_F (fun w4 => w4.heap[g]? = some (.cells #[.bool false, .bool true, .bool false, .bool false, .int .i64 17, .int .i64 17] 107 (0, 0)) ∧ At g w2 w4) (by rfl) rfl ⟨_, by go_simp; rfl, ?_, ?_⟩ (fun w4 hF => ?_)
  · skip
    refine blk_put (cs := #[.bool false, .bool true, .bool false, .bool false, .int .i64 17, .int .i64 0]) ?_ 5 _ rfl
    refine blk_put (cs := #[.bool false, .bool true, .bool false, .bool false, .int .i64 0, .int .i64 0]) ?_ 4 _ rfl
    refine blk_put (cs := #[.bool false, .bool true, .bool false, .bool false, .int .i64 0, .int .i64 0]) ?_ 3 _ rfl
    refine blk_put (cs := #[.bool false, .bool true, .bool false, .bool false, .int .i64 0, .int .i64 0]) ?_ 2 _ rfl
    refine blk_put (cs := #[.bool false, .bool false, .bool false, .bool false, .int .i64 0, .int .i64 0]) ?_ 1 _ rfl
    refine blk_put (cs := #[.bool false, .bool false, .bool false, .bool false, .int .i64 0, .int .i64 0]) ?_ 0 _ rfl
    exact hbx
  · repeat (first | (with_reducible exact At.refl _ _) | refine At.set ?_ _ _)
  obtain ⟨hbx4, hat⟩ := hF
  have hx4 : w4.cell? ad = some (.int .u8 3) := (hat.cell (by have := World.block_lt_of_cell? _ _ hx0; omega)).trans hHeld
  have hbel4 := Lib.hid (hat.below hbel (by omega))
  have hpz4 := Lib.hid ((hat.block w.heap.size (by omega)).trans hpz)
  have hbx5 := Lib.hid hbx4
  clear hbx hbel hpz hat hHeld hbx4 hc0 hf0 hc1 hf1 hc2 hf2 hc3 hf3 hc4 hf4 hc5 hf5
  refine hK.out _ _ hx4 (fun hHeld => ?_)
  clear hK K
  refine done_ (by kernel_rfl) ?_
  have hc4 : w4.cell? ⟨g, 4, none⟩ = some (.int .i64 17) := (blk_cell hbx5.out 4).trans rfl
  have hc5 : w4.cell? ⟨g, 5, none⟩ = some (.int .i64 17) := (blk_cell hbx5.out 5).trans rfl
  go_wp2_with (((with_reducible refine gate_ (.store 27 (.tmp 2) (.tmp 40)) rfl ?_); refine store_row_F rfl rfl 27 (.tmp 2) (.tmp 40) rfl w.heap.size _ rfl rfl 27 _ hpz4.out (by kernel_rfl) rfl (by kernel_rfl) ?_; intro w5 hb5 hat5; have HB5 := Lib.hid hb5; have HAT5 := Lib.hid hat5; clear hb5 hat5))
  refine bodyPost_ret (v := .tuple #[.agg #[.int .i64 0, .int .u32 0, .int .u32 0, .int .u32 0, .int .u32 0, .int .u32 0, .int .u32 0, .int .u32 0, .complex .f64 0 0, .slice none 0 0], .int .i64 102]) ?_ rfl ⟨rfl, HAT5.out.below hbel4.out (Nat.le_refl _)⟩
  have hl5 := run_loadVar_row (P := Try.prog) w5 w.heap.size 27 27 _ (0, 0) _ HB5.out Try.underlying27 rfl (by kernel_rfl)
  exact results_cell2 Try.results16 _ _ rfl rfl hl5
set_option maxRecDepth 100000 in
set_option maxHeartbeats 4000000 in
theorem decode_proper (ad : Addr) (n c : Nat) (l l1 : List Int) (w : World) (hd : l.drop 1 = l1) (hC : Kd.C (Kd.int .u8) w (some ad) l.length l) (hn : l.length = n) (hcap : n ≤ c) (hk : rd l 0 = 3) (h0 : 0 < n) (hl : 17 ≤ n) (hm : n ≤ 17) :
    Calls Try.prog 16 #[.slice (some ad) n c] w
      (fun e w' => e = .returned (.tuple #[.agg (decAgg (checkP 3 ((IntKind.u32.wrap (num4 (l1)))) ((IntKind.u32.wrap (num4 (cut4 (l1))))) ((IntKind.u32.wrap (num4 (cut4 (cut4 (l1)))))) (0) ((IntKind.u32.wrap (num4 (cut4 (cut4 (cut4 (l1))))))) (0) (0) 0 0 0) #[.int .i64 3, .int .u32 (IntKind.u32.wrap (num4 (l1))), .int .u32 (IntKind.u32.wrap (num4 (cut4 (l1)))), .int .u32 (IntKind.u32.wrap (num4 (cut4 (cut4 (l1))))), .int .u32 0, .int .u32 (IntKind.u32.wrap (num4 (cut4 (cut4 (cut4 (l1)))))), .int .u32 0, .int .u32 0, .complex .f64 0 0, .slice none 0 0]), .int .i64 (checkP 3 ((IntKind.u32.wrap (num4 (l1)))) ((IntKind.u32.wrap (num4 (cut4 (l1))))) ((IntKind.u32.wrap (num4 (cut4 (cut4 (l1)))))) (0) ((IntKind.u32.wrap (num4 (cut4 (cut4 (cut4 (l1))))))) (0) (0) 0 0 0)]) ∧ Below w.heap.size w w') := by
  have HD := Lib.hid hd
  clear hd
  have hu27 := Try.underlying27
  have hbz := bz27
  have hal := al27
  have hu107 := Try.underlying107
  have hix := ixu3
  have hne : ((n : Int) == 0) = false := beq_eq_false_iff_ne.2 (by omega)
  obtain ⟨_, e0, hx0⟩ := Kd.at_int hC 0 (by omega) (by omega)
  cases e0
  rw [hk] at hx0
  have ha0 : ad.add (0 : Int).toNat = ad := by simp [Addr.add]
  rw [ha0] at hx0
  have hx1 := fun o => cell_alloc_of hx0 o
  have HC := Lib.hid hC
  have HN := Lib.hid hn
  clear hC hk hn ha0
  go_enter Try.func16, Try.ntmps16
  go_wp2_with fail
  have HP := Lib.hid (show (w.alloc (.cells #[.int .i64 0, .int .u32 0, .int .u32 0, .int .u32 0, .int .u32 0, .int .u32 0, .int .u32 0, .int .u32 0, .complex .f64 0 0, .slice none 0 0] 27)).drew.heap[w.heap.size]? = some (.cells #[.int .i64 0, .int .u32 0, .int .u32 0, .int .u32 0, .int .u32 0, .int .u32 0, .int .u32 0, .int .u32 0, .complex .f64 0 0, .slice none 0 0] 27 (0, 0)) from heap_alloc_new w _)
  have HW := Lib.hid (bl_drew ((Below.refl w.heap.size w).alloc (Nat.le_refl _) (.cells #[.int .i64 0, .int .u32 0, .int .u32 0, .int .u32 0, .int .u32 0, .int .u32 0, .int .u32 0, .int .u32 0, .complex .f64 0 0, .slice none 0 0] 27)))
  refine start_ (n := 7) (S := fun w' => w'.cell? ad = some (.int .u8 3)) (ds := []) #[false, false, false, false, false, false, false] (by kernel_rfl) rfl rfl (hx1 _) (fun hHeld => ?_)
  generalize (w.alloc (.cells #[.int .i64 0, .int .u32 0, .int .u32 0, .int .u32 0, .int .u32 0, .int .u32 0, .int .u32 0, .int .u32 0, .complex .f64 0 0, .slice none 0 0] 27)).drew = w1 at HW HP hHeld ⊢
  refine pure_ (i := 1) (N := some 25) (v := ?_) (a' := ?_) #[false, true, false, false, false, false, false] rfl rfl (by kernel_rfl) (fun _ _ _ h => h) (Or.inl ⟨by rfl, ?_⟩) ?_ ?_
  rotate_left
  · intro w'
    go_simp
    with_reducible rfl
  rotate_left
  · simp only [Act.put, List.setIfInBounds_toArray, List.set_cons_zero, List.set_cons_succ]
    rfl
  refine pure_ (i := 2) (N := some 26) (v := ?_) (a' := ?_) #[false, true, true, false, false, false, false] rfl rfl (by kernel_rfl) (fun _ _ _ h => h) (Or.inl ⟨by rfl, ?_⟩) ?_ ?_
  rotate_left
  · intro w'
    go_simp
    with_reducible rfl
  rotate_left
  · simp only [Act.put, List.setIfInBounds_toArray, List.set_cons_zero, List.set_cons_succ]
    rfl
  refine take_ (i := 3) (N := some 27) (v := ?_) (a' := ?_) #[false, true, true, true, false, false, false] rfl rfl (by kernel_rfl) (fun _ _ _ h => h) (Or.inl ⟨by rfl, ?_⟩) hHeld ?_ ?_
  rotate_left
  · intro w' s0
    go_simp
    with_reducible rfl
  rotate_left
  · simp only [Act.put, List.setIfInBounds_toArray, List.set_cons_zero, List.set_cons_succ]
    rfl
  refine join_ (σ := Nat) 1 #[true, true, true, true, true, true, false] (fun g => [(24, table), (28, .agg #[.bool false, .bool true, .bool false, .bool false, .int .i64 17, .int .i64 17]), (4, .pointer (some ⟨g, 0, none⟩))]) (fun g w' => w'.heap[g]? = some (.cells #[.bool false, .bool false, .bool false, .bool false, .int .i64 0, .int .i64 0] 107 (0, 0)) ∧ Below w.heap.size w w' ∧ w.heap.size < g ∧ w'.heap[w.heap.size]? = some (.cells #[.int .i64 0, .int .u32 0, .int .u32 0, .int .u32 0, .int .u32 0, .int .u32 0, .int .u32 0, .int .u32 0, .complex .f64 0 0, .slice none 0 0] 27 (0, 0)) ∧ w'.cell? ad = some (.int .u8 3)) ?_ ?_
  rotate_left
  · intro hcont
    refine two_ (i := 0) (j := 5) (Ni := some 24) (Nj := some 4) #[true, true, true, true, false, false, false] #[false, true, true, true, false, true, false] rfl rfl rfl rfl (by kernel_rfl) (by decide) (by decide) (fun K hK => ?_) (fun K hK => ?_)
    · skip
      refine goes_ Try.func59 (by kernel_rfl) rfl #[] (by rfl) rfl rfl (by (try simp only [List.map_toArray, List.map_cons, List.map_nil]); first | done | rfl) ?_
      refine (rows_any _).mono ?_
      rintro e w2 ⟨rfl, hb⟩
      refine ⟨_, rfl, ?_⟩
      have hH2 := (hb.cell (World.block_lt_of_cell? _ _ hHeld)).trans hHeld
      have HW2 := Lib.hid (HW.out.trans (hb.mono HW.out.size))
      have HP2 := Lib.hid ((hb.block w.heap.size (blk_lt HP.out)).trans HP.out)
      refine hK.out _ _ hH2 (fun hHeld => ?_)
      clear hK K
      refine norm_ (a' := ?_) ?_ ?_
      rotate_left
      · show Act.put _ (some 24) _ = _
        simp only [Act.put, List.setIfInBounds_toArray, List.set_cons_zero, List.set_cons_succ]
        rfl
      refine pure_ (i := 4) (N := some 28) (v := ?_) (a' := ?_) #[true, true, true, true, true, false, false] rfl rfl (by kernel_rfl) (fun _ _ _ h => h) (Or.inl ⟨by rfl, ?_⟩) ?_ ?_
      rotate_left
      · intro w'
        go_simp
        with_reducible rfl
      rotate_left
      · simp only [Act.put, List.setIfInBounds_toArray, List.set_cons_zero, List.set_cons_succ]
        rfl
      refine one_ (i := 5) (N := some 4) #[true, true, true, true, true, true, false] rfl rfl (by kernel_rfl) (by decide) (fun K hK => ?_)
      refine box_step (by rfl) (N := 4) rfl (cs := #[.bool false, .bool false, .bool false, .bool false, .int .i64 0, .int .i64 0]) (t := 107) (by first | (go_simp; done) | (go_simp; rfl)) ?_
      intro g hg w3 hbx hb3
      have hH3 := (hb3.cell (World.block_lt_of_cell? _ _ hHeld)).trans hHeld
      have hgt : w.heap.size < g := by have := blk_lt HP2.out; omega
      have HW3 := Lib.hid (HW2.out.trans (hb3.mono HW2.out.size))
      have HP3 := Lib.hid ((hb3.block w.heap.size (blk_lt HP2.out)).trans HP2.out)
      refine hK.out _ _ hH3 (fun hHeld => ?_)
      clear hK K
      have h9 := hcont g w3 ⟨hbx, HW3.out, hgt, HP3.out, hHeld⟩
      simp only [putAll, Act.put, List.setIfInBounds_toArray, List.set_cons_zero, List.set_cons_succ] at h9
      refine norm_ (a' := ?_) ?_ ?_
      rotate_left
      · show Act.put _ (some 4) _ = _
        simp only [Act.put, List.setIfInBounds_toArray, List.set_cons_zero, List.set_cons_succ]
        rfl
      exact h9
    · skip
      refine box_step (by rfl) (N := 4) rfl (cs := #[.bool false, .bool false, .bool false, .bool false, .int .i64 0, .int .i64 0]) (t := 107) (by first | (go_simp; done) | (go_simp; rfl)) ?_
      intro g hg w3 hbx hb3
      have hH3 := (hb3.cell (World.block_lt_of_cell? _ _ hHeld)).trans hHeld
      have hgt : w.heap.size < g := by have := blk_lt HP.out; omega
      have HW9 := Lib.hid (HW.out.trans (hb3.mono HW.out.size))
      have HP9 := Lib.hid ((hb3.block w.heap.size (blk_lt HP.out)).trans HP.out)
      refine hK.out _ _ hH3 (fun hHeld => ?_)
      clear hK K
      clear HW HP
      have HW := HW9
      have HP := HP9
      clear HW9 HP9
      refine norm_ (a' := ?_) ?_ ?_
      rotate_left
      · show Act.put _ (some 4) _ = _
        simp only [Act.put, List.setIfInBounds_toArray, List.set_cons_zero, List.set_cons_succ]
        rfl
      refine one_ (i := 0) (N := some 24) #[true, true, true, true, false, true, false] rfl rfl (by kernel_rfl) (by decide) (fun K hK => ?_)
      refine goes_ Try.func59 (by kernel_rfl) rfl #[] (by rfl) rfl rfl (by (try simp only [List.map_toArray, List.map_cons, List.map_nil]); first | done | rfl) ?_
      refine (rows_any _).mono ?_
      rintro e w2 ⟨rfl, hb⟩
      refine ⟨_, rfl, ?_⟩
      have hH2 := (hb.cell (World.block_lt_of_cell? _ _ hHeld)).trans hHeld
      have HW2 := Lib.hid (HW.out.trans (hb.mono HW.out.size))
      have HP2 := Lib.hid ((hb.block w.heap.size (blk_lt HP.out)).trans HP.out)
      have hbx2 := (hb.block g (blk_lt hbx)).trans hbx
      refine hK.out _ _ hH2 (fun hHeld => ?_)
      clear hK K
      refine norm_ (a' := ?_) ?_ ?_
      rotate_left
      · show Act.put _ (some 24) _ = _
        simp only [Act.put, List.setIfInBounds_toArray, List.set_cons_zero, List.set_cons_succ]
        rfl
      refine pure_ (i := 4) (N := some 28) (v := ?_) (a' := ?_) #[true, true, true, true, true, true, false] rfl rfl (by kernel_rfl) (fun _ _ _ h => h) (Or.inl ⟨by rfl, ?_⟩) ?_ ?_
      rotate_left
      · intro w'
        go_simp
        with_reducible rfl
      rotate_left
      · simp only [Act.put, List.setIfInBounds_toArray, List.set_cons_zero, List.set_cons_succ]
        rfl
      have h9 := hcont g w2 ⟨hbx2, HW2.out, hgt, HP2.out, hHeld⟩
      simp only [putAll, Act.put, List.setIfInBounds_toArray, List.set_cons_zero, List.set_cons_succ] at h9
      exact h9
  intro g w2 ⟨hbx, hbel, hgt, hpz, hHeld⟩
  clear HW HP
  refine norm_ (a' := ?_) ?_ ?_
  rotate_left
  · show putAll _ _ = _
    simp only [putAll, Act.put, List.setIfInBounds_toArray, List.set_cons_zero, List.set_cons_succ]
    rfl
  have hc0 : w2.cell? ⟨g, 0, none⟩ = some (.bool false) := (blk_cell hbx 0).trans rfl
  have hf0 := blk_frozen hbx 0
  have hc1 : w2.cell? ⟨g, 1, none⟩ = some (.bool false) := (blk_cell hbx 1).trans rfl
  have hf1 := blk_frozen hbx 1
  have hc2 : w2.cell? ⟨g, 2, none⟩ = some (.bool false) := (blk_cell hbx 2).trans rfl
  have hf2 := blk_frozen hbx 2
  have hc3 : w2.cell? ⟨g, 3, none⟩ = some (.bool false) := (blk_cell hbx 3).trans rfl
  have hf3 := blk_frozen hbx 3
  have hc4 : w2.cell? ⟨g, 4, none⟩ = some (.int .i64 0) := (blk_cell hbx 4).trans rfl
  have hf4 := blk_frozen hbx 4
  have hc5 : w2.cell? ⟨g, 5, none⟩ = some (.int .i64 0) := (blk_cell hbx 5).trans rfl
  have hf5 := blk_frozen hbx 5
  refine one_ (i := 6) (N := none) #[true, true, true, true, true, true, true] rfl rfl (by kernel_rfl) (by decide) (fun K hK => ?_)
  refine skip_F (fun w4 => w4.heap[g]? = some (.cells #[.bool false, .bool true, .bool false, .bool false, .int .i64 17, .int .i64 17] 107 (0, 0)) ∧ At g w2 w4) (by rfl) rfl ⟨_, by go_simp; rfl, ?_, ?_⟩ (fun w4 hF => ?_)
  · skip
    refine blk_put (cs := #[.bool false, .bool true, .bool false, .bool false, .int .i64 17, .int .i64 0]) ?_ 5 _ rfl
    refine blk_put (cs := #[.bool false, .bool true, .bool false, .bool false, .int .i64 0, .int .i64 0]) ?_ 4 _ rfl
    refine blk_put (cs := #[.bool false, .bool true, .bool false, .bool false, .int .i64 0, .int .i64 0]) ?_ 3 _ rfl
    refine blk_put (cs := #[.bool false, .bool true, .bool false, .bool false, .int .i64 0, .int .i64 0]) ?_ 2 _ rfl
    refine blk_put (cs := #[.bool false, .bool false, .bool false, .bool false, .int .i64 0, .int .i64 0]) ?_ 1 _ rfl
    refine blk_put (cs := #[.bool false, .bool false, .bool false, .bool false, .int .i64 0, .int .i64 0]) ?_ 0 _ rfl
    exact hbx
  · repeat (first | (with_reducible exact At.refl _ _) | refine At.set ?_ _ _)
  obtain ⟨hbx4, hat⟩ := hF
  have hx4 : w4.cell? ad = some (.int .u8 3) := (hat.cell (by have := World.block_lt_of_cell? _ _ hx0; omega)).trans hHeld
  have hbel4 := Lib.hid (hat.below hbel (by omega))
  have hpz4 := Lib.hid ((hat.block w.heap.size (by omega)).trans hpz)
  have hbx5 := Lib.hid hbx4
  clear hbx hbel hpz hat hHeld hbx4 hc0 hf0 hc1 hf1 hc2 hf2 hc3 hf3 hc4 hf4 hc5 hf5
  refine hK.out _ _ hx4 (fun hHeld => ?_)
  clear hK K
  refine done_ (by kernel_rfl) ?_
  have hc4 : w4.cell? ⟨g, 4, none⟩ = some (.int .i64 17) := (blk_cell hbx5.out 4).trans rfl
  have hc5 : w4.cell? ⟨g, 5, none⟩ = some (.int .i64 17) := (blk_cell hbx5.out 5).trans rfl
  have hn := HN.out
  subst hn
  obtain ⟨i0, hi0, _, hsz, _⟩ := info_parts info5
  obtain ⟨A1, hcut, hA1, hcap1⟩ := print_drop_of (P := Try.prog) (Value.int .u8) 0 22 5 .i64 Try.underlying22 hi0 hsz (some ad) c l (1 : Int) (by omega) (by omega) hcap
  have e1 : (1 : Int).toNat = 1 := rfl
  rw [e1] at hcut hA1 hcap1
  have HA1 : RowKit.Hid (∀ W, Kd.C (Kd.int .u8) W (some ad) l.length l → Kd.C (Kd.int .u8) W A1 (l.drop 1).length (l.drop 1)) := Lib.hid (fun W hW => Kd.C_of_reads (h1 := fun _ => rfl) (hA1 W (Kd.reads_of_C hW)))
  have hn1 : RowKit.Hid ((l.drop 1).length = l.length - 1) := Lib.hid List.length_drop
  have hd := HD.out
  rw [hd] at hcut HA1 hcap1 hn1
  clear hd
  clear hA1 hi0 hsz e1
  go_wp2_with fail
  have hadb : ad.block < w.heap.size := World.block_lt_of_cell? _ _ hx0
  have hgr : g < w4.heap.size := blk_lt hbx5.out
  have hX0 : Below w4.heap.size w4 (w4.alloc (.cells #[.slice A1 (l1).length (c - 1)] 112)).drew := bl_drew ((Below.refl w4.heap.size w4).alloc (Nat.le_refl _) (.cells #[.slice A1 (l1).length (c - 1)] 112))
  have HR := Lib.hid (show (w4.alloc (.cells #[.slice A1 (l1).length (c - 1)] 112)).drew.heap[w4.heap.size]? = some (.cells #[.slice A1 (l1).length (c - 1)] 112 (0, 0)) from heap_alloc_new w4 _)
  have HW := Lib.hid (hbel4.out.trans (hX0.mono hbel4.out.size))
  have HP := Lib.hid ((hX0.block w.heap.size (blk_lt hpz4.out)).trans hpz4.out)
  have HB := Lib.hid ((hX0.block g (blk_lt hbx5.out)).trans hbx5.out)
  have hH5 := (hX0.cell (World.block_lt_of_cell? _ _ hx4)).trans hx4
  have HA : RowKit.Hid (∀ W, Kd.C (Kd.int .u8) W (some ad) l.length l → Kd.C (Kd.int .u8) W A1 (l1).length (l1)) := HA1
  have HCAP := hcap
  refine start_ (n := 16) (S := fun w' => w'.cell? ad = some (.int .u8 3)) (ds := []) #[false, false, false, false, false, false, false, false, false, false, false, false, false, false, false, false] (by kernel_rfl) rfl rfl (hH5) (fun hHeld => ?_)
  generalize (w4.alloc (.cells #[.slice A1 (l1).length (c - 1)] 112)).drew = w5 at HR HW HP HB hHeld ⊢
  clear hX0 hH5 HA1
  generalize w4.heap.size = gr at hgr HR ⊢
  refine pure_ (i := 0) (N := some 45) (v := ?_) (a' := ?_) #[true, false, false, false, false, false, false, false, false, false, false, false, false, false, false, false] rfl rfl (by kernel_rfl) (fun _ _ _ h => h) (Or.inl ⟨by rfl, ?_⟩) ?_ ?_
  rotate_left
  · intro w'
    go_simp
    with_reducible rfl
  rotate_left
  · simp only [Act.put, List.setIfInBounds_toArray, List.set_cons_zero, List.set_cons_succ]
    rfl
  refine pure_ (i := 1) (N := some 46) (v := ?_) (a' := ?_) #[true, true, false, false, false, false, false, false, false, false, false, false, false, false, false, false] rfl rfl (by kernel_rfl) (fun _ _ _ h => h) (Or.inl ⟨by rfl, ?_⟩) ?_ ?_
  rotate_left
  · intro w'
    go_simp
    with_reducible rfl
  rotate_left
  · simp only [Act.put, List.setIfInBounds_toArray, List.set_cons_zero, List.set_cons_succ]
    rfl
  refine take_ (i := 2) (N := some 47) (v := ?_) (a' := ?_) #[true, true, true, false, false, false, false, false, false, false, false, false, false, false, false, false] rfl rfl (by kernel_rfl) (fun _ _ _ h => h) (Or.inl ⟨by rfl, ?_⟩) hHeld ?_ ?_
  rotate_left
  · intro w' s0
    go_simp
    with_reducible rfl
  rotate_left
  · simp only [Act.put, List.setIfInBounds_toArray, List.set_cons_zero, List.set_cons_succ]
    rfl
  refine pure_ (i := 3) (N := some 48) (v := ?_) (a' := ?_) #[true, true, true, true, false, false, false, false, false, false, false, false, false, false, false, false] rfl rfl (by kernel_rfl) (fun _ _ _ h => h) (Or.inl ⟨by rfl, ?_⟩) ?_ ?_
  rotate_left
  · intro w'
    go_simp
    with_reducible rfl
  rotate_left
  · simp only [Act.put, List.setIfInBounds_toArray, List.set_cons_zero, List.set_cons_succ]
    rfl
  refine pure_ (i := 4) (N := some 49) (v := ?_) (a' := ?_) #[true, true, true, true, true, false, false, false, false, false, false, false, false, false, false, false] rfl rfl (by kernel_rfl) (fun _ _ _ h => h) (Or.inl ⟨by rfl, ?_⟩) ?_ ?_
  rotate_left
  · intro w'
    go_simp
    with_reducible rfl
  rotate_left
  · simp only [Act.put, List.setIfInBounds_toArray, List.set_cons_zero, List.set_cons_succ]
    rfl
  refine pure_ (i := 7) (N := some 52) (v := ?_) (a' := ?_) #[true, true, true, true, true, false, false, true, false, false, false, false, false, false, false, false] rfl rfl (by kernel_rfl) (fun _ _ _ h => h) (Or.inl ⟨by rfl, ?_⟩) ?_ ?_
  rotate_left
  · intro w'
    go_simp
    with_reducible rfl
  rotate_left
  · simp only [Act.put, List.setIfInBounds_toArray, List.set_cons_zero, List.set_cons_succ]
    rfl
  refine pure_ (i := 10) (N := some 55) (v := ?_) (a' := ?_) #[true, true, true, true, true, false, false, true, false, false, true, false, false, false, false, false] rfl rfl (by kernel_rfl) (fun _ _ _ h => h) (Or.inl ⟨by rfl, ?_⟩) ?_ ?_
  rotate_left
  · intro w'
    go_simp
    with_reducible rfl
  rotate_left
  · simp only [Act.put, List.setIfInBounds_toArray, List.set_cons_zero, List.set_cons_succ]
    rfl
  refine join_ (σ := Nat × Option Addr) 1 #[true, true, true, true, true, true, true, true, true, true, true, true, true, true, true, false] (fun s => [(50, .int .u64 (num4 (l1))), (51, .int .u32 (IntKind.u32.wrap (num4 (l1)))), (53, .int .u64 (num4 (cut4 (l1)))), (54, .int .u32 (IntKind.u32.wrap (num4 (cut4 (l1))))), (56, .int .u64 (num4 (cut4 (cut4 (l1))))), (57, .int .u32 (IntKind.u32.wrap (num4 (cut4 (cut4 (l1)))))), (58, .agg #[.int .i64 3, .int .u32 (IntKind.u32.wrap (num4 (l1))), .int .u32 (IntKind.u32.wrap (num4 (cut4 (l1)))), .int .u32 (IntKind.u32.wrap (num4 (cut4 (cut4 (l1))))), .int .u32 0, .int .u32 0, .int .u32 0, .int .u32 0, .complex .f64 0 0, .slice none 0 0]), (6, .pointer (some ⟨s.1, 0, none⟩))]) (fun s w' => w'.heap[gr]? = some (.cells #[.slice s.2 (cut4 (cut4 (cut4 (l1)))).length (c - 1 - 4 - 4 - 4)] 112 (0, 0)) ∧ (∀ W, Kd.C (Kd.int .u8) W (some ad) l.length l → Kd.C (Kd.int .u8) W s.2 (cut4 (cut4 (cut4 (l1)))).length (cut4 (cut4 (cut4 (l1))))) ∧ Below w.heap.size w w' ∧ w'.heap[w.heap.size]? = some (.cells #[.int .i64 0, .int .u32 0, .int .u32 0, .int .u32 0, .int .u32 0, .int .u32 0, .int .u32 0, .int .u32 0, .complex .f64 0 0, .slice none 0 0] 27 (0, 0)) ∧ w'.heap[g]? = some (.cells #[.bool false, .bool true, .bool false, .bool false, .int .i64 17, .int .i64 17] 107 (0, 0)) ∧ w'.heap[s.1]? = some (.cells #[.int .i64 0, .int .u32 0, .int .u32 0, .int .u32 0, .int .u32 0, .int .u32 0, .int .u32 0, .int .u32 0, .complex .f64 0 0, .slice none 0 0] 27 (0, 0)) ∧ gr < s.1 ∧ w'.cell? ad = some (.int .u8 3)) ?_ ?_
  rotate_left
  · intro hcont
    refine two_ (i := 5) (j := 14) (Ni := some 50) (Nj := some 6) #[true, true, true, true, true, true, false, true, false, false, true, false, false, false, false, false] #[true, true, true, true, true, false, false, true, false, false, true, false, false, false, true, false] rfl rfl rfl rfl (by kernel_rfl) (by decide) (by decide) (fun K hK => ?_) (fun K hK => ?_)
    · skip
      refine goes_ Try.func60 (by kernel_rfl) rfl #[.pointer (some ⟨gr, 0, none⟩), .int .i64 4] (by rfl) rfl rfl (by (try simp only [List.map_toArray, List.map_cons, List.map_nil]); first | done | rfl) ?_
      refine (number_4 gr _ _ _ _ HR.out (HA.out _ (Kd.C_below HC.out HW.out)) (by have := hn1.out; (try simp only [cut4_len]); omega) (by have := hn1.out; (try simp only [cut4_len]); omega) (by have := hn1.out; (try simp only [cut4_len]); omega)).mono ?_
      rintro e w6 hpost
      unfold Num4 at hpost
      obtain ⟨A6, rfl, hw6, hA6⟩ := hpost
      refine ⟨_, rfl, ?_⟩
      have hat : At gr _ w6 := hw6 ▸ At.set (At.refl _ _) _ _
      have HR9 : w6.heap[gr]? = some (.cells #[.slice A6 (cut4 (l1)).length (c - 1 - 4)] 112 (0, 0)) := hw6 ▸ blk_put HR.out 0 _ rfl
      clear hw6
      have hH9 := (hat.cell (by omega)).trans hHeld
      have HW9 := hat.below HW.out (by omega)
      have HP9 := (hat.block w.heap.size (by omega)).trans HP.out
      have HB9 := (hat.block g (by omega)).trans HB.out
      have HA9 := fun W hW => hA6 W (HA.out W hW)
      clear HR HW HP HB HA hA6 hat
      have HR := Lib.hid HR9
      have HW := Lib.hid HW9
      have HP := Lib.hid HP9
      have HB := Lib.hid HB9
      have HA := Lib.hid HA9
      clear HR9 HW9 HP9 HB9 HA9
      refine hK.out _ _ hH9 (fun hHeld => ?_)
      clear hK K hH9
      refine norm_ (a' := ?_) ?_ ?_
      rotate_left
      · show Act.put _ (some 50) _ = _
        simp only [Act.put, List.setIfInBounds_toArray, List.set_cons_zero, List.set_cons_succ]
        rfl
      refine pure_ (i := 6) (N := some 51) (v := ?_) (a' := ?_) #[true, true, true, true, true, true, true, true, false, false, true, false, false, false, false, false] rfl rfl (by kernel_rfl) (fun _ _ _ h => h) (Or.inl ⟨by rfl, ?_⟩) ?_ ?_
      rotate_left
      · intro w'
        go_simp
        with_reducible rfl
      rotate_left
      · simp only [Act.put, List.setIfInBounds_toArray, List.set_cons_zero, List.set_cons_succ]
        rfl
      refine two_ (i := 8) (j := 14) (Ni := some 53) (Nj := some 6) #[true, true, true, true, true, true, true, true, true, false, true, false, false, false, false, false] #[true, true, true, true, true, true, true, true, false, false, true, false, false, false, true, false] rfl rfl rfl rfl (by kernel_rfl) (by decide) (by decide) (fun K hK => ?_) (fun K hK => ?_)
      · skip
        refine goes_ Try.func60 (by kernel_rfl) rfl #[.pointer (some ⟨gr, 0, none⟩), .int .i64 4] (by rfl) rfl rfl (by (try simp only [List.map_toArray, List.map_cons, List.map_nil]); first | done | rfl) ?_
        refine (number_4 gr _ _ _ _ HR.out (HA.out _ (Kd.C_below HC.out HW.out)) (by have := hn1.out; (try simp only [cut4_len]); omega) (by have := hn1.out; (try simp only [cut4_len]); omega) (by have := hn1.out; (try simp only [cut4_len]); omega)).mono ?_
        rintro e w6 hpost
        unfold Num4 at hpost
        obtain ⟨A6, rfl, hw6, hA6⟩ := hpost
        refine ⟨_, rfl, ?_⟩
        have hat : At gr _ w6 := hw6 ▸ At.set (At.refl _ _) _ _
        have HR9 : w6.heap[gr]? = some (.cells #[.slice A6 (cut4 (cut4 (l1))).length (c - 1 - 4 - 4)] 112 (0, 0)) := hw6 ▸ blk_put HR.out 0 _ rfl
        clear hw6
        have hH9 := (hat.cell (by omega)).trans hHeld
        have HW9 := hat.below HW.out (by omega)
        have HP9 := (hat.block w.heap.size (by omega)).trans HP.out
        have HB9 := (hat.block g (by omega)).trans HB.out
        have HA9 := fun W hW => hA6 W (HA.out W hW)
        clear HR HW HP HB HA hA6 hat
        have HR := Lib.hid HR9
        have HW := Lib.hid HW9
        have HP := Lib.hid HP9
        have HB := Lib.hid HB9
        have HA := Lib.hid HA9
        clear HR9 HW9 HP9 HB9 HA9
        refine hK.out _ _ hH9 (fun hHeld => ?_)
        clear hK K hH9
        refine norm_ (a' := ?_) ?_ ?_
        rotate_left
        · show Act.put _ (some 53) _ = _
          simp only [Act.put, List.setIfInBounds_toArray, List.set_cons_zero, List.set_cons_succ]
          rfl
        refine pure_ (i := 9) (N := some 54) (v := ?_) (a' := ?_) #[true, true, true, true, true, true, true, true, true, true, true, false, false, false, false, false] rfl rfl (by kernel_rfl) (fun _ _ _ h => h) (Or.inl ⟨by rfl, ?_⟩) ?_ ?_
        rotate_left
        · intro w'
          go_simp
          with_reducible rfl
        rotate_left
        · simp only [Act.put, List.setIfInBounds_toArray, List.set_cons_zero, List.set_cons_succ]
          rfl
        refine two_ (i := 11) (j := 14) (Ni := some 56) (Nj := some 6) #[true, true, true, true, true, true, true, true, true, true, true, true, false, false, false, false] #[true, true, true, true, true, true, true, true, true, true, true, false, false, false, true, false] rfl rfl rfl rfl (by kernel_rfl) (by decide) (by decide) (fun K hK => ?_) (fun K hK => ?_)
        · skip
          refine goes_ Try.func60 (by kernel_rfl) rfl #[.pointer (some ⟨gr, 0, none⟩), .int .i64 4] (by rfl) rfl rfl (by (try simp only [List.map_toArray, List.map_cons, List.map_nil]); first | done | rfl) ?_
          refine (number_4 gr _ _ _ _ HR.out (HA.out _ (Kd.C_below HC.out HW.out)) (by have := hn1.out; (try simp only [cut4_len]); omega) (by have := hn1.out; (try simp only [cut4_len]); omega) (by have := hn1.out; (try simp only [cut4_len]); omega)).mono ?_
          rintro e w6 hpost
          unfold Num4 at hpost
          obtain ⟨A6, rfl, hw6, hA6⟩ := hpost
          refine ⟨_, rfl, ?_⟩
          have hat : At gr _ w6 := hw6 ▸ At.set (At.refl _ _) _ _
          have HR9 : w6.heap[gr]? = some (.cells #[.slice A6 (cut4 (cut4 (cut4 (l1)))).length (c - 1 - 4 - 4 - 4)] 112 (0, 0)) := hw6 ▸ blk_put HR.out 0 _ rfl
          clear hw6
          have hH9 := (hat.cell (by omega)).trans hHeld
          have HW9 := hat.below HW.out (by omega)
          have HP9 := (hat.block w.heap.size (by omega)).trans HP.out
          have HB9 := (hat.block g (by omega)).trans HB.out
          have HA9 := fun W hW => hA6 W (HA.out W hW)
          clear HR HW HP HB HA hA6 hat
          have HR := Lib.hid HR9
          have HW := Lib.hid HW9
          have HP := Lib.hid HP9
          have HB := Lib.hid HB9
          have HA := Lib.hid HA9
          clear HR9 HW9 HP9 HB9 HA9
          refine hK.out _ _ hH9 (fun hHeld => ?_)
          clear hK K hH9
          refine norm_ (a' := ?_) ?_ ?_
          rotate_left
          · show Act.put _ (some 56) _ = _
            simp only [Act.put, List.setIfInBounds_toArray, List.set_cons_zero, List.set_cons_succ]
            rfl
          refine pure_ (i := 12) (N := some 57) (v := ?_) (a' := ?_) #[true, true, true, true, true, true, true, true, true, true, true, true, true, false, false, false] rfl rfl (by kernel_rfl) (fun _ _ _ h => h) (Or.inl ⟨by rfl, ?_⟩) ?_ ?_
          rotate_left
          · intro w'
            go_simp
            with_reducible rfl
          rotate_left
          · simp only [Act.put, List.setIfInBounds_toArray, List.set_cons_zero, List.set_cons_succ]
            rfl
          refine pure_ (i := 13) (N := some 58) (v := ?_) (a' := ?_) #[true, true, true, true, true, true, true, true, true, true, true, true, true, true, false, false] rfl rfl (by kernel_rfl) (fun _ _ _ h => h) (Or.inl ⟨by rfl, ?_⟩) ?_ ?_
          rotate_left
          · intro w'
            go_simp
            with_reducible rfl
          rotate_left
          · simp only [Act.put, List.setIfInBounds_toArray, List.set_cons_zero, List.set_cons_succ]
            rfl
          refine one_ (i := 14) (N := some 6) #[true, true, true, true, true, true, true, true, true, true, true, true, true, true, true, false] rfl rfl (by kernel_rfl) (by decide) (fun K hK => ?_)
          refine box_step (by rfl) (N := 6) rfl (cs := #[.int .i64 0, .int .u32 0, .int .u32 0, .int .u32 0, .int .u32 0, .int .u32 0, .int .u32 0, .int .u32 0, .complex .f64 0 0, .slice none 0 0]) (t := 27) (by first | (go_simp; done) | (go_simp; rfl)) ?_
          intro g6 hg6 w6 hbx hb3
          have hgx : gr < g6 := by have := blk_lt HR.out; omega
          have hH9 := (hb3.cell (World.block_lt_of_cell? _ _ hHeld)).trans hHeld
          have HR9 := (hb3.block gr (blk_lt HR.out)).trans HR.out
          have HW9 := HW.out.trans (hb3.mono HW.out.size)
          have HP9 := (hb3.block w.heap.size (blk_lt HP.out)).trans HP.out
          have HB9 := (hb3.block g (blk_lt HB.out)).trans HB.out
          clear HR HW HP HB
          have HR := Lib.hid HR9
          have HW := Lib.hid HW9
          have HP := Lib.hid HP9
          have HB := Lib.hid HB9
          have HX := Lib.hid hbx
          clear HR9 HW9 HP9 HB9 hbx hb3 hg6
          refine hK.out _ _ hH9 (fun hHeld => ?_)
          clear hK K hH9
          refine norm_ (a' := ?_) ?_ ?_
          rotate_left
          · show Act.put _ (some 6) _ = _
            simp only [Act.put, List.setIfInBounds_toArray, List.set_cons_zero, List.set_cons_succ]
            rfl
          have h9 := hcont (g6, _) _ ⟨HR.out, HA.out, HW.out, HP.out, HB.out, HX.out, hgx, hHeld⟩
          simp only [putAll, Act.put, List.setIfInBounds_toArray, List.set_cons_zero, List.set_cons_succ] at h9
          exact h9
        · skip
          refine box_step (by rfl) (N := 6) rfl (cs := #[.int .i64 0, .int .u32 0, .int .u32 0, .int .u32 0, .int .u32 0, .int .u32 0, .int .u32 0, .int .u32 0, .complex .f64 0 0, .slice none 0 0]) (t := 27) (by first | (go_simp; done) | (go_simp; rfl)) ?_
          intro g6 hg6 w6 hbx hb3
          have hgx : gr < g6 := by have := blk_lt HR.out; omega
          have hH9 := (hb3.cell (World.block_lt_of_cell? _ _ hHeld)).trans hHeld
          have HR9 := (hb3.block gr (blk_lt HR.out)).trans HR.out
          have HW9 := HW.out.trans (hb3.mono HW.out.size)
          have HP9 := (hb3.block w.heap.size (blk_lt HP.out)).trans HP.out
          have HB9 := (hb3.block g (blk_lt HB.out)).trans HB.out
          clear HR HW HP HB
          have HR := Lib.hid HR9
          have HW := Lib.hid HW9
          have HP := Lib.hid HP9
          have HB := Lib.hid HB9
          have HX := Lib.hid hbx
          clear HR9 HW9 HP9 HB9 hbx hb3 hg6
          refine hK.out _ _ hH9 (fun hHeld => ?_)
          clear hK K hH9
          refine norm_ (a' := ?_) ?_ ?_
          rotate_left
          · show Act.put _ (some 6) _ = _
            simp only [Act.put, List.setIfInBounds_toArray, List.set_cons_zero, List.set_cons_succ]
            rfl
          refine one_ (i := 11) (N := some 56) #[true, true, true, true, true, true, true, true, true, true, true, true, false, false, true, false] rfl rfl (by kernel_rfl) (by decide) (fun K hK => ?_)
          refine goes_ Try.func60 (by kernel_rfl) rfl #[.pointer (some ⟨gr, 0, none⟩), .int .i64 4] (by rfl) rfl rfl (by (try simp only [List.map_toArray, List.map_cons, List.map_nil]); first | done | rfl) ?_
          refine (number_4 gr _ _ _ _ HR.out (HA.out _ (Kd.C_below HC.out HW.out)) (by have := hn1.out; (try simp only [cut4_len]); omega) (by have := hn1.out; (try simp only [cut4_len]); omega) (by have := hn1.out; (try simp only [cut4_len]); omega)).mono ?_
          rintro e w6 hpost
          unfold Num4 at hpost
          obtain ⟨A6, rfl, hw6, hA6⟩ := hpost
          refine ⟨_, rfl, ?_⟩
          have hat : At gr _ w6 := hw6 ▸ At.set (At.refl _ _) _ _
          have HR9 : w6.heap[gr]? = some (.cells #[.slice A6 (cut4 (cut4 (cut4 (l1)))).length (c - 1 - 4 - 4 - 4)] 112 (0, 0)) := hw6 ▸ blk_put HR.out 0 _ rfl
          clear hw6
          have hH9 := (hat.cell (by omega)).trans hHeld
          have HW9 := hat.below HW.out (by omega)
          have HP9 := (hat.block w.heap.size (by omega)).trans HP.out
          have HB9 := (hat.block g (by omega)).trans HB.out
          have HA9 := fun W hW => hA6 W (HA.out W hW)
          have HX9 := (hat.block g6 (by omega)).trans HX.out
          clear HR HW HP HB HA hA6 hat HX
          have HR := Lib.hid HR9
          have HW := Lib.hid HW9
          have HP := Lib.hid HP9
          have HB := Lib.hid HB9
          have HA := Lib.hid HA9
          have HX := Lib.hid HX9
          clear HR9 HW9 HP9 HB9 HA9 HX9
          refine hK.out _ _ hH9 (fun hHeld => ?_)
          clear hK K hH9
          refine norm_ (a' := ?_) ?_ ?_
          rotate_left
          · show Act.put _ (some 56) _ = _
            simp only [Act.put, List.setIfInBounds_toArray, List.set_cons_zero, List.set_cons_succ]
            rfl
          refine pure_ (i := 12) (N := some 57) (v := ?_) (a' := ?_) #[true, true, true, true, true, true, true, true, true, true, true, true, true, false, true, false] rfl rfl (by kernel_rfl) (fun _ _ _ h => h) (Or.inl ⟨by rfl, ?_⟩) ?_ ?_
          rotate_left
          · intro w'
            go_simp
            with_reducible rfl
          rotate_left
          · simp only [Act.put, List.setIfInBounds_toArray, List.set_cons_zero, List.set_cons_succ]
            rfl
          refine pure_ (i := 13) (N := some 58) (v := ?_) (a' := ?_) #[true, true, true, true, true, true, true, true, true, true, true, true, true, true, true, false] rfl rfl (by kernel_rfl) (fun _ _ _ h => h) (Or.inl ⟨by rfl, ?_⟩) ?_ ?_
          rotate_left
          · intro w'
            go_simp
            with_reducible rfl
          rotate_left
          · simp only [Act.put, List.setIfInBounds_toArray, List.set_cons_zero, List.set_cons_succ]
            rfl
          have h9 := hcont (g6, _) _ ⟨HR.out, HA.out, HW.out, HP.out, HB.out, HX.out, hgx, hHeld⟩
          simp only [putAll, Act.put, List.setIfInBounds_toArray, List.set_cons_zero, List.set_cons_succ] at h9
          exact h9
      · skip
        refine box_step (by rfl) (N := 6) rfl (cs := #[.int .i64 0, .int .u32 0, .int .u32 0, .int .u32 0, .int .u32 0, .int .u32 0, .int .u32 0, .int .u32 0, .complex .f64 0 0, .slice none 0 0]) (t := 27) (by first | (go_simp; done) | (go_simp; rfl)) ?_
        intro g6 hg6 w6 hbx hb3
        have hgx : gr < g6 := by have := blk_lt HR.out; omega
        have hH9 := (hb3.cell (World.block_lt_of_cell? _ _ hHeld)).trans hHeld
        have HR9 := (hb3.block gr (blk_lt HR.out)).trans HR.out
        have HW9 := HW.out.trans (hb3.mono HW.out.size)
        have HP9 := (hb3.block w.heap.size (blk_lt HP.out)).trans HP.out
        have HB9 := (hb3.block g (blk_lt HB.out)).trans HB.out
        clear HR HW HP HB
        have HR := Lib.hid HR9
        have HW := Lib.hid HW9
        have HP := Lib.hid HP9
        have HB := Lib.hid HB9
        have HX := Lib.hid hbx
        clear HR9 HW9 HP9 HB9 hbx hb3 hg6
        refine hK.out _ _ hH9 (fun hHeld => ?_)
        clear hK K hH9
        refine norm_ (a' := ?_) ?_ ?_
        rotate_left
        · show Act.put _ (some 6) _ = _
          simp only [Act.put, List.setIfInBounds_toArray, List.set_cons_zero, List.set_cons_succ]
          rfl
        refine one_ (i := 8) (N := some 53) #[true, true, true, true, true, true, true, true, true, false, true, false, false, false, true, false] rfl rfl (by kernel_rfl) (by decide) (fun K hK => ?_)
        refine goes_ Try.func60 (by kernel_rfl) rfl #[.pointer (some ⟨gr, 0, none⟩), .int .i64 4] (by rfl) rfl rfl (by (try simp only [List.map_toArray, List.map_cons, List.map_nil]); first | done | rfl) ?_
        refine (number_4 gr _ _ _ _ HR.out (HA.out _ (Kd.C_below HC.out HW.out)) (by have := hn1.out; (try simp only [cut4_len]); omega) (by have := hn1.out; (try simp only [cut4_len]); omega) (by have := hn1.out; (try simp only [cut4_len]); omega)).mono ?_
        rintro e w6 hpost
        unfold Num4 at hpost
        obtain ⟨A6, rfl, hw6, hA6⟩ := hpost
        refine ⟨_, rfl, ?_⟩
        have hat : At gr _ w6 := hw6 ▸ At.set (At.refl _ _) _ _
        have HR9 : w6.heap[gr]? = some (.cells #[.slice A6 (cut4 (cut4 (l1))).length (c - 1 - 4 - 4)] 112 (0, 0)) := hw6 ▸ blk_put HR.out 0 _ rfl
        clear hw6
        have hH9 := (hat.cell (by omega)).trans hHeld
        have HW9 := hat.below HW.out (by omega)
        have HP9 := (hat.block w.heap.size (by omega)).trans HP.out
        have HB9 := (hat.block g (by omega)).trans HB.out
        have HA9 := fun W hW => hA6 W (HA.out W hW)
        have HX9 := (hat.block g6 (by omega)).trans HX.out
        clear HR HW HP HB HA hA6 hat HX
        have HR := Lib.hid HR9
        have HW := Lib.hid HW9
        have HP := Lib.hid HP9
        have HB := Lib.hid HB9
        have HA := Lib.hid HA9
        have HX := Lib.hid HX9
        clear HR9 HW9 HP9 HB9 HA9 HX9
        refine hK.out _ _ hH9 (fun hHeld => ?_)
        clear hK K hH9
        refine norm_ (a' := ?_) ?_ ?_
        rotate_left
        · show Act.put _ (some 53) _ = _
          simp only [Act.put, List.setIfInBounds_toArray, List.set_cons_zero, List.set_cons_succ]
          rfl
        refine pure_ (i := 9) (N := some 54) (v := ?_) (a' := ?_) #[true, true, true, true, true, true, true, true, true, true, true, false, false, false, true, false] rfl rfl (by kernel_rfl) (fun _ _ _ h => h) (Or.inl ⟨by rfl, ?_⟩) ?_ ?_
        rotate_left
        · intro w'
          go_simp
          with_reducible rfl
        rotate_left
        · simp only [Act.put, List.setIfInBounds_toArray, List.set_cons_zero, List.set_cons_succ]
          rfl
        refine one_ (i := 11) (N := some 56) #[true, true, true, true, true, true, true, true, true, true, true, true, false, false, true, false] rfl rfl (by kernel_rfl) (by decide) (fun K hK => ?_)
        refine goes_ Try.func60 (by kernel_rfl) rfl #[.pointer (some ⟨gr, 0, none⟩), .int .i64 4] (by rfl) rfl rfl (by (try simp only [List.map_toArray, List.map_cons, List.map_nil]); first | done | rfl) ?_
        refine (number_4 gr _ _ _ _ HR.out (HA.out _ (Kd.C_below HC.out HW.out)) (by have := hn1.out; (try simp only [cut4_len]); omega) (by have := hn1.out; (try simp only [cut4_len]); omega) (by have := hn1.out; (try simp only [cut4_len]); omega)).mono ?_
        rintro e w6 hpost
        unfold Num4 at hpost
        obtain ⟨A6, rfl, hw6, hA6⟩ := hpost
        refine ⟨_, rfl, ?_⟩
        have hat : At gr _ w6 := hw6 ▸ At.set (At.refl _ _) _ _
        have HR9 : w6.heap[gr]? = some (.cells #[.slice A6 (cut4 (cut4 (cut4 (l1)))).length (c - 1 - 4 - 4 - 4)] 112 (0, 0)) := hw6 ▸ blk_put HR.out 0 _ rfl
        clear hw6
        have hH9 := (hat.cell (by omega)).trans hHeld
        have HW9 := hat.below HW.out (by omega)
        have HP9 := (hat.block w.heap.size (by omega)).trans HP.out
        have HB9 := (hat.block g (by omega)).trans HB.out
        have HA9 := fun W hW => hA6 W (HA.out W hW)
        have HX9 := (hat.block g6 (by omega)).trans HX.out
        clear HR HW HP HB HA hA6 hat HX
        have HR := Lib.hid HR9
        have HW := Lib.hid HW9
        have HP := Lib.hid HP9
        have HB := Lib.hid HB9
        have HA := Lib.hid HA9
        have HX := Lib.hid HX9
        clear HR9 HW9 HP9 HB9 HA9 HX9
        refine hK.out _ _ hH9 (fun hHeld => ?_)
        clear hK K hH9
        refine norm_ (a' := ?_) ?_ ?_
        rotate_left
        · show Act.put _ (some 56) _ = _
          simp only [Act.put, List.setIfInBounds_toArray, List.set_cons_zero, List.set_cons_succ]
          rfl
        refine pure_ (i := 12) (N := some 57) (v := ?_) (a' := ?_) #[true, true, true, true, true, true, true, true, true, true, true, true, true, false, true, false] rfl rfl (by kernel_rfl) (fun _ _ _ h => h) (Or.inl ⟨by rfl, ?_⟩) ?_ ?_
        rotate_left
        · intro w'
          go_simp
          with_reducible rfl
        rotate_left
        · simp only [Act.put, List.setIfInBounds_toArray, List.set_cons_zero, List.set_cons_succ]
          rfl
        refine pure_ (i := 13) (N := some 58) (v := ?_) (a' := ?_) #[true, true, true, true, true, true, true, true, true, true, true, true, true, true, true, false] rfl rfl (by kernel_rfl) (fun _ _ _ h => h) (Or.inl ⟨by rfl, ?_⟩) ?_ ?_
        rotate_left
        · intro w'
          go_simp
          with_reducible rfl
        rotate_left
        · simp only [Act.put, List.setIfInBounds_toArray, List.set_cons_zero, List.set_cons_succ]
          rfl
        have h9 := hcont (g6, _) _ ⟨HR.out, HA.out, HW.out, HP.out, HB.out, HX.out, hgx, hHeld⟩
        simp only [putAll, Act.put, List.setIfInBounds_toArray, List.set_cons_zero, List.set_cons_succ] at h9
        exact h9
    · skip
      refine box_step (by rfl) (N := 6) rfl (cs := #[.int .i64 0, .int .u32 0, .int .u32 0, .int .u32 0, .int .u32 0, .int .u32 0, .int .u32 0, .int .u32 0, .complex .f64 0 0, .slice none 0 0]) (t := 27) (by first | (go_simp; done) | (go_simp; rfl)) ?_
      intro g6 hg6 w6 hbx hb3
      have hgx : gr < g6 := by have := blk_lt HR.out; omega
      have hH9 := (hb3.cell (World.block_lt_of_cell? _ _ hHeld)).trans hHeld
      have HR9 := (hb3.block gr (blk_lt HR.out)).trans HR.out
      have HW9 := HW.out.trans (hb3.mono HW.out.size)
      have HP9 := (hb3.block w.heap.size (blk_lt HP.out)).trans HP.out
      have HB9 := (hb3.block g (blk_lt HB.out)).trans HB.out
      clear HR HW HP HB
      have HR := Lib.hid HR9
      have HW := Lib.hid HW9
      have HP := Lib.hid HP9
      have HB := Lib.hid HB9
      have HX := Lib.hid hbx
      clear HR9 HW9 HP9 HB9 hbx hb3 hg6
      refine hK.out _ _ hH9 (fun hHeld => ?_)
      clear hK K hH9
      refine norm_ (a' := ?_) ?_ ?_
      rotate_left
      · show Act.put _ (some 6) _ = _
        simp only [Act.put, List.setIfInBounds_toArray, List.set_cons_zero, List.set_cons_succ]
        rfl
      refine one_ (i := 5) (N := some 50) #[true, true, true, true, true, true, false, true, false, false, true, false, false, false, true, false] rfl rfl (by kernel_rfl) (by decide) (fun K hK => ?_)
      refine goes_ Try.func60 (by kernel_rfl) rfl #[.pointer (some ⟨gr, 0, none⟩), .int .i64 4] (by rfl) rfl rfl (by (try simp only [List.map_toArray, List.map_cons, List.map_nil]); first | done | rfl) ?_
      refine (number_4 gr _ _ _ _ HR.out (HA.out _ (Kd.C_below HC.out HW.out)) (by have := hn1.out; (try simp only [cut4_len]); omega) (by have := hn1.out; (try simp only [cut4_len]); omega) (by have := hn1.out; (try simp only [cut4_len]); omega)).mono ?_
      rintro e w6 hpost
      unfold Num4 at hpost
      obtain ⟨A6, rfl, hw6, hA6⟩ := hpost
      refine ⟨_, rfl, ?_⟩
      have hat : At gr _ w6 := hw6 ▸ At.set (At.refl _ _) _ _
      have HR9 : w6.heap[gr]? = some (.cells #[.slice A6 (cut4 (l1)).length (c - 1 - 4)] 112 (0, 0)) := hw6 ▸ blk_put HR.out 0 _ rfl
      clear hw6
      have hH9 := (hat.cell (by omega)).trans hHeld
      have HW9 := hat.below HW.out (by omega)
      have HP9 := (hat.block w.heap.size (by omega)).trans HP.out
      have HB9 := (hat.block g (by omega)).trans HB.out
      have HA9 := fun W hW => hA6 W (HA.out W hW)
      have HX9 := (hat.block g6 (by omega)).trans HX.out
      clear HR HW HP HB HA hA6 hat HX
      have HR := Lib.hid HR9
      have HW := Lib.hid HW9
      have HP := Lib.hid HP9
      have HB := Lib.hid HB9
      have HA := Lib.hid HA9
      have HX := Lib.hid HX9
      clear HR9 HW9 HP9 HB9 HA9 HX9
      refine hK.out _ _ hH9 (fun hHeld => ?_)
      clear hK K hH9
      refine norm_ (a' := ?_) ?_ ?_
      rotate_left
      · show Act.put _ (some 50) _ = _
        simp only [Act.put, List.setIfInBounds_toArray, List.set_cons_zero, List.set_cons_succ]
        rfl
      refine pure_ (i := 6) (N := some 51) (v := ?_) (a' := ?_) #[true, true, true, true, true, true, true, true, false, false, true, false, false, false, true, false] rfl rfl (by kernel_rfl) (fun _ _ _ h => h) (Or.inl ⟨by rfl, ?_⟩) ?_ ?_
      rotate_left
      · intro w'
        go_simp
        with_reducible rfl
      rotate_left
      · simp only [Act.put, List.setIfInBounds_toArray, List.set_cons_zero, List.set_cons_succ]
        rfl
      refine one_ (i := 8) (N := some 53) #[true, true, true, true, true, true, true, true, true, false, true, false, false, false, true, false] rfl rfl (by kernel_rfl) (by decide) (fun K hK => ?_)
      refine goes_ Try.func60 (by kernel_rfl) rfl #[.pointer (some ⟨gr, 0, none⟩), .int .i64 4] (by rfl) rfl rfl (by (try simp only [List.map_toArray, List.map_cons, List.map_nil]); first | done | rfl) ?_
      refine (number_4 gr _ _ _ _ HR.out (HA.out _ (Kd.C_below HC.out HW.out)) (by have := hn1.out; (try simp only [cut4_len]); omega) (by have := hn1.out; (try simp only [cut4_len]); omega) (by have := hn1.out; (try simp only [cut4_len]); omega)).mono ?_
      rintro e w6 hpost
      unfold Num4 at hpost
      obtain ⟨A6, rfl, hw6, hA6⟩ := hpost
      refine ⟨_, rfl, ?_⟩
      have hat : At gr _ w6 := hw6 ▸ At.set (At.refl _ _) _ _
      have HR9 : w6.heap[gr]? = some (.cells #[.slice A6 (cut4 (cut4 (l1))).length (c - 1 - 4 - 4)] 112 (0, 0)) := hw6 ▸ blk_put HR.out 0 _ rfl
      clear hw6
      have hH9 := (hat.cell (by omega)).trans hHeld
      have HW9 := hat.below HW.out (by omega)
      have HP9 := (hat.block w.heap.size (by omega)).trans HP.out
      have HB9 := (hat.block g (by omega)).trans HB.out
      have HA9 := fun W hW => hA6 W (HA.out W hW)
      have HX9 := (hat.block g6 (by omega)).trans HX.out
      clear HR HW HP HB HA hA6 hat HX
      have HR := Lib.hid HR9
      have HW := Lib.hid HW9
      have HP := Lib.hid HP9
      have HB := Lib.hid HB9
      have HA := Lib.hid HA9
      have HX := Lib.hid HX9
      clear HR9 HW9 HP9 HB9 HA9 HX9
      refine hK.out _ _ hH9 (fun hHeld => ?_)
      clear hK K hH9
      refine norm_ (a' := ?_) ?_ ?_
      rotate_left
      · show Act.put _ (some 53) _ = _
        simp only [Act.put, List.setIfInBounds_toArray, List.set_cons_zero, List.set_cons_succ]
        rfl
      refine pure_ (i := 9) (N := some 54) (v := ?_) (a' := ?_) #[true, true, true, true, true, true, true, true, true, true, true, false, false, false, true, false] rfl rfl (by kernel_rfl) (fun _ _ _ h => h) (Or.inl ⟨by rfl, ?_⟩) ?_ ?_
      rotate_left
      · intro w'
        go_simp
        with_reducible rfl
      rotate_left
      · simp only [Act.put, List.setIfInBounds_toArray, List.set_cons_zero, List.set_cons_succ]
        rfl
      refine one_ (i := 11) (N := some 56) #[true, true, true, true, true, true, true, true, true, true, true, true, false, false, true, false] rfl rfl (by kernel_rfl) (by decide) (fun K hK => ?_)
      refine goes_ Try.func60 (by kernel_rfl) rfl #[.pointer (some ⟨gr, 0, none⟩), .int .i64 4] (by rfl) rfl rfl (by (try simp only [List.map_toArray, List.map_cons, List.map_nil]); first | done | rfl) ?_
      refine (number_4 gr _ _ _ _ HR.out (HA.out _ (Kd.C_below HC.out HW.out)) (by have := hn1.out; (try simp only [cut4_len]); omega) (by have := hn1.out; (try simp only [cut4_len]); omega) (by have := hn1.out; (try simp only [cut4_len]); omega)).mono ?_
      rintro e w6 hpost
      unfold Num4 at hpost
      obtain ⟨A6, rfl, hw6, hA6⟩ := hpost
      refine ⟨_, rfl, ?_⟩
      have hat : At gr _ w6 := hw6 ▸ At.set (At.refl _ _) _ _
      have HR9 : w6.heap[gr]? = some (.cells #[.slice A6 (cut4 (cut4 (cut4 (l1)))).length (c - 1 - 4 - 4 - 4)] 112 (0, 0)) := hw6 ▸ blk_put HR.out 0 _ rfl
      clear hw6
      have hH9 := (hat.cell (by omega)).trans hHeld
      have HW9 := hat.below HW.out (by omega)
      have HP9 := (hat.block w.heap.size (by omega)).trans HP.out
      have HB9 := (hat.block g (by omega)).trans HB.out
      have HA9 := fun W hW => hA6 W (HA.out W hW)
      have HX9 := (hat.block g6 (by omega)).trans HX.out
      clear HR HW HP HB HA hA6 hat HX
      have HR := Lib.hid HR9
      have HW := Lib.hid HW9
      have HP := Lib.hid HP9
      have HB := Lib.hid HB9
      have HA := Lib.hid HA9
      have HX := Lib.hid HX9
      clear HR9 HW9 HP9 HB9 HA9 HX9
      refine hK.out _ _ hH9 (fun hHeld => ?_)
      clear hK K hH9
      refine norm_ (a' := ?_) ?_ ?_
      rotate_left
      · show Act.put _ (some 56) _ = _
        simp only [Act.put, List.setIfInBounds_toArray, List.set_cons_zero, List.set_cons_succ]
        rfl
      refine pure_ (i := 12) (N := some 57) (v := ?_) (a' := ?_) #[true, true, true, true, true, true, true, true, true, true, true, true, true, false, true, false] rfl rfl (by kernel_rfl) (fun _ _ _ h => h) (Or.inl ⟨by rfl, ?_⟩) ?_ ?_
      rotate_left
      · intro w'
        go_simp
        with_reducible rfl
      rotate_left
      · simp only [Act.put, List.setIfInBounds_toArray, List.set_cons_zero, List.set_cons_succ]
        rfl
      refine pure_ (i := 13) (N := some 58) (v := ?_) (a' := ?_) #[true, true, true, true, true, true, true, true, true, true, true, true, true, true, true, false] rfl rfl (by kernel_rfl) (fun _ _ _ h => h) (Or.inl ⟨by rfl, ?_⟩) ?_ ?_
      rotate_left
      · intro w'
        go_simp
        with_reducible rfl
      rotate_left
      · simp only [Act.put, List.setIfInBounds_toArray, List.set_cons_zero, List.set_cons_succ]
        rfl
      have h9 := hcont (g6, _) _ ⟨HR.out, HA.out, HW.out, HP.out, HB.out, HX.out, hgx, hHeld⟩
      simp only [putAll, Act.put, List.setIfInBounds_toArray, List.set_cons_zero, List.set_cons_succ] at h9
      exact h9
  intro s w6 ⟨hR, hA, hW, hP, hB, hX, hgx, hHeld⟩
  obtain ⟨g6, A4⟩ := s
  clear HR HW HP HB HA
  refine norm_ (a' := ?_) ?_ ?_
  rotate_left
  · show putAll _ _ = _
    simp only [putAll, Act.put, List.setIfInBounds_toArray, List.set_cons_zero, List.set_cons_succ]
    rfl
  have hc0 : w6.cell? ⟨g6, 0, none⟩ = some (.int .i64 0) := (blk_cell hX 0).trans rfl
  have hf0 := blk_frozen hX 0
  have hc1 : w6.cell? ⟨g6, 1, none⟩ = some (.int .u32 0) := (blk_cell hX 1).trans rfl
  have hf1 := blk_frozen hX 1
  have hc2 : w6.cell? ⟨g6, 2, none⟩ = some (.int .u32 0) := (blk_cell hX 2).trans rfl
  have hf2 := blk_frozen hX 2
  have hc3 : w6.cell? ⟨g6, 3, none⟩ = some (.int .u32 0) := (blk_cell hX 3).trans rfl
  have hf3 := blk_frozen hX 3
  have hc4 : w6.cell? ⟨g6, 4, none⟩ = some (.int .u32 0) := (blk_cell hX 4).trans rfl
  have hf4 := blk_frozen hX 4
  have hc5 : w6.cell? ⟨g6, 5, none⟩ = some (.int .u32 0) := (blk_cell hX 5).trans rfl
  have hf5 := blk_frozen hX 5
  have hc6 : w6.cell? ⟨g6, 6, none⟩ = some (.int .u32 0) := (blk_cell hX 6).trans rfl
  have hf6 := blk_frozen hX 6
  have hc7 : w6.cell? ⟨g6, 7, none⟩ = some (.int .u32 0) := (blk_cell hX 7).trans rfl
  have hf7 := blk_frozen hX 7
  have hc8 : w6.cell? ⟨g6, 8, none⟩ = some (.complex .f64 0 0) := (blk_cell hX 8).trans rfl
  have hf8 := blk_frozen hX 8
  have hc9 : w6.cell? ⟨g6, 9, none⟩ = some (.slice none 0 0) := (blk_cell hX 9).trans rfl
  have hf9 := blk_frozen hX 9
  refine one_ (i := 15) (N := none) #[true, true, true, true, true, true, true, true, true, true, true, true, true, true, true, true] rfl rfl (by kernel_rfl) (by decide) (fun K hK => ?_)
  refine skip_F (fun w7 => w7.heap[g6]? = some (.cells #[.int .i64 3, .int .u32 (IntKind.u32.wrap (num4 (l1))), .int .u32 (IntKind.u32.wrap (num4 (cut4 (l1)))), .int .u32 (IntKind.u32.wrap (num4 (cut4 (cut4 (l1))))), .int .u32 0, .int .u32 0, .int .u32 0, .int .u32 0, .complex .f64 0 0, .slice none 0 0] 27 (0, 0)) ∧ At g6 w6 w7) (by rfl) rfl ⟨_, by go_simp; rfl, ?_, ?_⟩ (fun w7 hF => ?_)
  · skip
    refine blk_put (cs := #[.int .i64 3, .int .u32 (IntKind.u32.wrap (num4 (l1))), .int .u32 (IntKind.u32.wrap (num4 (cut4 (l1)))), .int .u32 (IntKind.u32.wrap (num4 (cut4 (cut4 (l1))))), .int .u32 0, .int .u32 0, .int .u32 0, .int .u32 0, .complex .f64 0 0, .slice none 0 0]) ?_ 9 _ rfl
    refine blk_put (cs := #[.int .i64 3, .int .u32 (IntKind.u32.wrap (num4 (l1))), .int .u32 (IntKind.u32.wrap (num4 (cut4 (l1)))), .int .u32 (IntKind.u32.wrap (num4 (cut4 (cut4 (l1))))), .int .u32 0, .int .u32 0, .int .u32 0, .int .u32 0, .complex .f64 0 0, .slice none 0 0]) ?_ 8 _ rfl
    refine blk_put (cs := #[.int .i64 3, .int .u32 (IntKind.u32.wrap (num4 (l1))), .int .u32 (IntKind.u32.wrap (num4 (cut4 (l1)))), .int .u32 (IntKind.u32.wrap (num4 (cut4 (cut4 (l1))))), .int .u32 0, .int .u32 0, .int .u32 0, .int .u32 0, .complex .f64 0 0, .slice none 0 0]) ?_ 7 _ rfl
    refine blk_put (cs := #[.int .i64 3, .int .u32 (IntKind.u32.wrap (num4 (l1))), .int .u32 (IntKind.u32.wrap (num4 (cut4 (l1)))), .int .u32 (IntKind.u32.wrap (num4 (cut4 (cut4 (l1))))), .int .u32 0, .int .u32 0, .int .u32 0, .int .u32 0, .complex .f64 0 0, .slice none 0 0]) ?_ 6 _ rfl
    refine blk_put (cs := #[.int .i64 3, .int .u32 (IntKind.u32.wrap (num4 (l1))), .int .u32 (IntKind.u32.wrap (num4 (cut4 (l1)))), .int .u32 (IntKind.u32.wrap (num4 (cut4 (cut4 (l1))))), .int .u32 0, .int .u32 0, .int .u32 0, .int .u32 0, .complex .f64 0 0, .slice none 0 0]) ?_ 5 _ rfl
    refine blk_put (cs := #[.int .i64 3, .int .u32 (IntKind.u32.wrap (num4 (l1))), .int .u32 (IntKind.u32.wrap (num4 (cut4 (l1)))), .int .u32 (IntKind.u32.wrap (num4 (cut4 (cut4 (l1))))), .int .u32 0, .int .u32 0, .int .u32 0, .int .u32 0, .complex .f64 0 0, .slice none 0 0]) ?_ 4 _ rfl
    refine blk_put (cs := #[.int .i64 3, .int .u32 (IntKind.u32.wrap (num4 (l1))), .int .u32 (IntKind.u32.wrap (num4 (cut4 (l1)))), .int .u32 0, .int .u32 0, .int .u32 0, .int .u32 0, .int .u32 0, .complex .f64 0 0, .slice none 0 0]) ?_ 3 _ rfl
    refine blk_put (cs := #[.int .i64 3, .int .u32 (IntKind.u32.wrap (num4 (l1))), .int .u32 0, .int .u32 0, .int .u32 0, .int .u32 0, .int .u32 0, .int .u32 0, .complex .f64 0 0, .slice none 0 0]) ?_ 2 _ rfl
    refine blk_put (cs := #[.int .i64 3, .int .u32 0, .int .u32 0, .int .u32 0, .int .u32 0, .int .u32 0, .int .u32 0, .int .u32 0, .complex .f64 0 0, .slice none 0 0]) ?_ 1 _ rfl
    refine blk_put (cs := #[.int .i64 0, .int .u32 0, .int .u32 0, .int .u32 0, .int .u32 0, .int .u32 0, .int .u32 0, .int .u32 0, .complex .f64 0 0, .slice none 0 0]) ?_ 0 _ rfl
    exact hX
  · repeat (first | (with_reducible exact At.refl _ _) | refine At.set ?_ _ _)
  obtain ⟨hX7, hat⟩ := hF
  have hx7 : w7.cell? ad = some (.int .u8 3) := (hat.cell (by omega)).trans hHeld
  have HW := Lib.hid (hat.below hW (by omega))
  have HP := Lib.hid ((hat.block w.heap.size (by omega)).trans hP)
  have HB := Lib.hid ((hat.block g (by omega)).trans hB)
  have HR := Lib.hid ((hat.block gr (by omega)).trans hR)
  have HX := Lib.hid hX7
  have HA := Lib.hid hA
  clear hR hA hW hP hB hX hat hHeld hX7 hc0 hf0 hc1 hf1 hc2 hf2 hc3 hf3 hc4 hf4 hc5 hf5 hc6 hf6 hc7 hf7 hc8 hf8 hc9 hf9
  refine hK.out _ _ hx7 (fun hHeld => ?_)
  clear hK K
  refine done_ (by kernel_rfl) ?_
  have hc0 : w7.cell? ⟨g6, 0, none⟩ = some (.int .i64 3) := (blk_cell HX.out 0).trans rfl
  have hr0 : w7.cell? ⟨g, 0, none⟩ = some (.bool false) := (blk_cell HB.out 0).trans rfl
  have hr1 : w7.cell? ⟨g, 1, none⟩ = some (.bool true) := (blk_cell HB.out 1).trans rfl
  go_wp2_with fail
  go_at_call 60
  refine (number_4 gr _ _ _ _ HR.out (HA.out _ (Kd.C_below HC.out HW.out)) (by have := hn1.out; (try simp only [cut1_len, cut4_len, cut8_len]); omega) (by have := hn1.out; (try simp only [cut1_len, cut4_len, cut8_len]); omega) (by have := hn1.out; (try simp only [cut1_len, cut4_len, cut8_len]); omega)).mono ?_
  rintro e w8 hpost
  unfold Num4 at hpost
  obtain ⟨A9, rfl, hw, hA9⟩ := hpost
  have hat : At gr _ w8 := hw ▸ At.set (At.refl _ _) _ _
  have HR9 : w8.heap[gr]? = some (.cells #[.slice A9 (cut4 (cut4 (cut4 (cut4 (l1))))).length ((c - 1 - 4 - 4 - 4) - 4)] 112 (0, 0)) := hw ▸ blk_put HR.out 0 _ rfl
  clear hw
  have HW9 := hat.below HW.out (by omega)
  have HP9 := (hat.block w.heap.size (by omega)).trans HP.out
  have HB9 := (hat.block g (by omega)).trans HB.out
  have HX9 := (hat.block g6 (by omega)).trans HX.out
  have HA9 := fun W hW => hA9 W (HA.out W hW)
  clear HR HW HP HB HX HA hA9 hat
  have HR := Lib.hid HR9
  have HW := Lib.hid HW9
  have HP := Lib.hid HP9
  have HB := Lib.hid HB9
  have HX := Lib.hid HX9
  have HA := Lib.hid HA9
  clear HR9 HW9 HP9 HB9 HX9 HA9
  go_wp2_with (first | ((with_reducible refine gate_ (.store 27 (.tmp 2) (.tmp 111)) rfl ?_); (refine store_row_F rfl rfl 27 (.tmp 2) (.tmp 111) rfl w.heap.size _ rfl rfl 27 _ HP.out (by kernel_rfl) rfl (by kernel_rfl) ?_); (intro w5 hb5 hat5); (have HB5 := Lib.hid hb5); (have HAT5 := Lib.hid hat5); (clear hb5 hat5)) | ((with_reducible refine gate_ (.store 27 (.tmp 2) (.tmp 113)) rfl ?_); (refine store_row_F rfl rfl 27 (.tmp 2) (.tmp 113) rfl w.heap.size _ rfl rfl 27 _ HP.out (by kernel_rfl) rfl (by kernel_rfl) ?_); (intro w5 hb5 hat5); (have HB5 := Lib.hid hb5); (have HAT5 := Lib.hid hat5); (clear hb5 hat5)) | ((with_reducible refine gate_ (.store 24 (.tmp 79) (.tmp 78)) rfl ?_); (have hc5 : w8.cell? ⟨g6, 5, none⟩ = some (.int .u32 0) := (blk_cell HX.out 5).trans rfl); (have hf5 := blk_frozen HX.out 5); (refine store_F (fun w9 => w9.heap[g6]? = some (.cells #[.int .i64 3, .int .u32 (IntKind.u32.wrap (num4 (l1))), .int .u32 (IntKind.u32.wrap (num4 (cut4 (l1)))), .int .u32 (IntKind.u32.wrap (num4 (cut4 (cut4 (l1))))), .int .u32 0, .int .u32 (IntKind.u32.wrap (num4 (cut4 (cut4 (cut4 (l1)))))), .int .u32 0, .int .u32 0, .complex .f64 0 0, .slice none 0 0] 27 (0, 0)) ∧ At g6 w8 w9) rfl rfl ⟨_, (by first | (go_simp; done) | (go_simp; rfl)), blk_put HX.out 5 _ rfl, At.set (At.refl _ _) _ _⟩ (fun w9 hF => ?_)); (obtain ⟨hX9, hat⟩ := hF); (have HW9 := hat.below HW.out (by omega)); (have HP9 := (hat.block w.heap.size (by omega)).trans HP.out); (have HB9 := (hat.block g (by omega)).trans HB.out); (have HR9 := (hat.block gr (by omega)).trans HR.out); (clear HR HW HP HB HX hc5 hf5 hat); (have HX := Lib.hid hX9); (clear hX9); (have HR := Lib.hid HR9); (have HW := Lib.hid HW9); (have HP := Lib.hid HP9); (have HB := Lib.hid HB9); (clear HR9 HW9 HP9 HB9); (have hr0 : w9.cell? ⟨g, 0, none⟩ = some (.bool false) := (blk_cell HB.out 0).trans rfl); (have hr1 : w9.cell? ⟨g, 1, none⟩ = some (.bool true) := (blk_cell HB.out 1).trans rfl); (have hr2 : w9.cell? ⟨g, 2, none⟩ = some (.bool false) := (blk_cell HB.out 2).trans rfl); (have hr3 : w9.cell? ⟨g, 3, none⟩ = some (.bool false) := (blk_cell HB.out 3).trans rfl); (have hc0 : w9.cell? ⟨g6, 0, none⟩ = some (.int .i64 3) := (blk_cell HX.out 0).trans rfl); (have hc1 : w9.cell? ⟨g6, 1, none⟩ = some (.int .u32 (IntKind.u32.wrap (num4 (l1)))) := (blk_cell HX.out 1).trans rfl); (have hc2 : w9.cell? ⟨g6, 2, none⟩ = some (.int .u32 (IntKind.u32.wrap (num4 (cut4 (l1))))) := (blk_cell HX.out 2).trans rfl); (have hc3 : w9.cell? ⟨g6, 3, none⟩ = some (.int .u32 (IntKind.u32.wrap (num4 (cut4 (cut4 (l1)))))) := (blk_cell HX.out 3).trans rfl); (have hc4 : w9.cell? ⟨g6, 4, none⟩ = some (.int .u32 0) := (blk_cell HX.out 4).trans rfl); (have hc5 : w9.cell? ⟨g6, 5, none⟩ = some (.int .u32 (IntKind.u32.wrap (num4 (cut4 (cut4 (cut4 (l1))))))) := (blk_cell HX.out 5).trans rfl); (have hc6 : w9.cell? ⟨g6, 6, none⟩ = some (.int .u32 0) := (blk_cell HX.out 6).trans rfl); (have hc7 : w9.cell? ⟨g6, 7, none⟩ = some (.int .u32 0) := (blk_cell HX.out 7).trans rfl); (have hc8 : w9.cell? ⟨g6, 8, none⟩ = some (.complex .f64 0 0) := (blk_cell HX.out 8).trans rfl); (have hc9 : w9.cell? ⟨g6, 9, none⟩ = some (.slice none 0 0) := (blk_cell HX.out 9).trans rfl)) | ((go_at_call 20); (refine (check_any _ _ _ _ _ _ _ _ _ _ _ _ _ _ (by decide) (by decide)).mono ?_); (rintro e wc ⟨rfl, hb⟩); (have HW9 := HW.out.trans (hb.mono HW.out.size)); (have HP9 := (hb.block w.heap.size (blk_lt HP.out)).trans HP.out); (have HX9 := (hb.block g6 (blk_lt HX.out)).trans HX.out); (clear HR HW HP HB HX hb); (have HW := Lib.hid HW9); (have HP := Lib.hid HP9); (have HX := Lib.hid HX9); (clear HW9 HP9 HX9); (generalize hE : checkP _ _ _ _ _ _ _ _ _ _ _ = E); (have HE := Lib.hid hE); (clear hE); (have hq0 : wc.cell? ⟨g6, 0, none⟩ = some (.int .i64 3) := (blk_cell HX.out 0).trans rfl); (have hq1 : wc.cell? ⟨g6, 1, none⟩ = some (.int .u32 (IntKind.u32.wrap (num4 (l1)))) := (blk_cell HX.out 1).trans rfl); (have hq2 : wc.cell? ⟨g6, 2, none⟩ = some (.int .u32 (IntKind.u32.wrap (num4 (cut4 (l1))))) := (blk_cell HX.out 2).trans rfl); (have hq3 : wc.cell? ⟨g6, 3, none⟩ = some (.int .u32 (IntKind.u32.wrap (num4 (cut4 (cut4 (l1)))))) := (blk_cell HX.out 3).trans rfl); (have hq4 : wc.cell? ⟨g6, 4, none⟩ = some (.int .u32 0) := (blk_cell HX.out 4).trans rfl); (have hq5 : wc.cell? ⟨g6, 5, none⟩ = some (.int .u32 (IntKind.u32.wrap (num4 (cut4 (cut4 (cut4 (l1))))))) := (blk_cell HX.out 5).trans rfl); (have hq6 : wc.cell? ⟨g6, 6, none⟩ = some (.int .u32 0) := (blk_cell HX.out 6).trans rfl); (have hq7 : wc.cell? ⟨g6, 7, none⟩ = some (.int .u32 0) := (blk_cell HX.out 7).trans rfl); (have hq8 : wc.cell? ⟨g6, 8, none⟩ = some (.complex .f64 0 0) := (blk_cell HX.out 8).trans rfl); (have hq9 : wc.cell? ⟨g6, 9, none⟩ = some (.slice none 0 0) := (blk_cell HX.out 9).trans rfl)))
  all_goals (
    refine bodyPost_ret (v := .tuple #[.agg (decAgg E #[.int .i64 3, .int .u32 (IntKind.u32.wrap (num4 (l1))), .int .u32 (IntKind.u32.wrap (num4 (cut4 (l1)))), .int .u32 (IntKind.u32.wrap (num4 (cut4 (cut4 (l1))))), .int .u32 0, .int .u32 (IntKind.u32.wrap (num4 (cut4 (cut4 (cut4 (l1)))))), .int .u32 0, .int .u32 0, .complex .f64 0 0, .slice none 0 0]), .int .i64 E]) ?_ rfl ?_
    rotate_left
    · have hq := HE.out
      skip
      refine ⟨?_, HAT5.out.below HW.out (Nat.le_refl _)⟩
      simp only [wrapU32]
      first | rw [hq] | skip
    have hl5 := run_loadVar_row (P := Try.prog) w5 w.heap.size 27 27 _ (0, 0) _ HB5.out Try.underlying27 rfl (by kernel_rfl))
  all_goals first
    | (have hE0 : E ≠ 0 := by simp_all
       rw [decAgg, if_neg hE0]
       exact results_cell2 Try.results16 _ _ rfl rfl hl5)
    | (have hE0 : E = 0 := by simp_all
       rw [decAgg, if_pos hE0, hE0]
       exact results_cell2 Try.results16 _ _ rfl rfl hl5)
end Go.Proofs.Ytnkkgofpifhoeaa.Pk3
