/- A packet's bytes: pack.Encode at a packet of kind 2 that may be; for all such packets. -/
import Derived.Test.YtnkkgofpifhoeaaPut
import Derived.Test.YtnkkgofpifhoeaaCheck
namespace Go.Proofs.Ytnkkgofpifhoeaa.Ek2
open Go.RowKit Go.Proofs.Ytnkkgofpifhoeaa.Base Go.Proofs.Ytnkkgofpifhoeaa.Pk Go.Proofs.YtnkkgofpifhoeaaW.PrintWords Go.Proofs.YtnkkgofpifhoeaaW.PrintLast Go.Proofs.Ytnkkgofpifhoeaa.Steps
set_option linter.unusedSimpArgs false
set_option linter.unusedVariables false
theorem ixe (w : World) : (Instr.index 108 table (.int .i64 2)).run Try.prog w = .ok (.agg #[.bool true, .bool true, .bool false, .bool true, .int .i64 22, .int .i64 1021]) w := by kernel_rfl
/-- Behind bytes that are made. -/
def EncPost (w : World) (L : List Int) (e : Ending) (w' : World) : Prop := ∃ v, e = .returned (.tuple #[v, .int .i64 0]) ∧ (Kd.int .u8).R 5 w' w.heap.size (fun _ => True) v L ∧ Below w.heap.size w w'
set_option maxRecDepth 100000 in
set_option maxHeartbeats 4000000 in
theorem encode_2 (mine boot yours seq ack stamp echo : Int) (zr zi : Nat) (A : Option Addr) (c : Nat) (body : List Int) (w : World) (hC : Kd.C (Kd.int .u8) w A body.length body) (hbl : body.length ≤ 20000)
    (hck : checkP 2 mine boot yours seq ack stamp echo zr zi body.length = 0) (hp : zr < 18446744073709551616) (hq : zi < 18446744073709551616) :
    Calls Try.prog 19 #[.agg #[.int .i64 2, .int .u32 mine, .int .u32 boot, .int .u32 yours, .int .u32 seq, .int .u32 ack, .int .u32 stamp, .int .u32 echo, .complex .f64 zr zi, .slice A body.length c]] w (EncPost w (((((([2] ++ put4 (IntKind.u64.wrap mine)) ++ put4 (IntKind.u64.wrap boot)) ++ put4 (IntKind.u64.wrap yours)) ++ put4 (IntKind.u64.wrap seq)) ++ put4 (IntKind.u64.wrap ack)) ++ body)) := by
  have hu27 := Try.underlying27
  have hu107 := Try.underlying107
  have hix := ixe
  have HCK := Lib.hid hck
  have HC := Lib.hid hC
  have HL := Lib.hid hbl
  have HP9 := Lib.hid hp
  have HQ9 := Lib.hid hq
  clear hck hC hbl hp hq
  go_enter Try.func19, Try.ntmps19
  go_wp2_with (go_at_call 20; refine (check_any _ _ _ _ _ _ _ _ _ _ _ _ _ _ HP9.out HQ9.out).mono ?_; rintro e w1 ⟨rfl, hb⟩; rw [HCK.out]; have HX := Lib.hid ((hb.block w.heap.size (by simp)).trans (heap_alloc_new w (.cells #[.int .i64 2, .int .u32 mine, .int .u32 boot, .int .u32 yours, .int .u32 seq, .int .u32 ack, .int .u32 stamp, .int .u32 echo, .complex .f64 zr zi, .slice A body.length c] 27))); have HW := Lib.hid (((Below.refl w.heap.size w).alloc (Nat.le_refl _) (.cells #[.int .i64 2, .int .u32 mine, .int .u32 boot, .int .u32 yours, .int .u32 seq, .int .u32 ack, .int .u32 stamp, .int .u32 echo, .complex .f64 zr zi, .slice A body.length c] 27)).trans (hb.mono (by simp))); clear hb)
  have HX9 : w1.drew.heap[w.heap.size]? = some (.cells #[.int .i64 2, .int .u32 mine, .int .u32 boot, .int .u32 yours, .int .u32 seq, .int .u32 ack, .int .u32 stamp, .int .u32 echo, .complex .f64 zr zi, .slice A body.length c] 27 (0, 0)) := HX.out
  have HW9 : Below w.heap.size w w1.drew := bl_drew HW.out
  clear HX HW
  have HW := Lib.hid HW9
  clear HW9
  refine start_ (n := 6) (S := fun w' => w'.heap[w.heap.size]? = some (.cells #[.int .i64 2, .int .u32 mine, .int .u32 boot, .int .u32 yours, .int .u32 seq, .int .u32 ack, .int .u32 stamp, .int .u32 echo, .complex .f64 zr zi, .slice A body.length c] 27 (0, 0))) (ds := []) #[false, false, false, false, false, false] (by kernel_rfl) rfl rfl (HX9) (fun hHeld => ?_)
  generalize w1.drew = w2 at HW hHeld ⊢
  refine pure_ (i := 1) (N := some 13) (v := ?_) (a' := ?_) #[false, true, false, false, false, false] rfl rfl (by kernel_rfl) (fun _ _ _ h => h) (Or.inl ⟨by rfl, ?_⟩) ?_ ?_
  rotate_left
  · intro w'
    go_simp
    with_reducible rfl
  rotate_left
  · simp only [Act.put, List.setIfInBounds_toArray, List.set_cons_zero, List.set_cons_succ]
    rfl
  refine take_ (i := 2) (N := some 14) (v := ?_) (a' := ?_) #[false, true, true, false, false, false] rfl rfl (by kernel_rfl) (fun _ _ _ h => h) (Or.inl ⟨by rfl, ?_⟩) hHeld ?_ ?_
  rotate_left
  · intro w' s0
    have hc0 : w'.cell? ⟨w.heap.size, 0, none⟩ = some (.int .i64 2) := (blk_cell s0 0).trans rfl
    clear s0
    go_simp
    with_reducible rfl
  rotate_left
  · simp only [Act.put, List.setIfInBounds_toArray, List.set_cons_zero, List.set_cons_succ]
    rfl
  refine join_ (σ := Nat) 1 #[true, true, true, true, true, false] (fun g => [(12, table), (15, .agg #[.bool true, .bool true, .bool false, .bool true, .int .i64 22, .int .i64 1021]), (5, .pointer (some ⟨g, 0, none⟩))]) (fun g w' => w'.heap[g]? = some (.cells #[.bool false, .bool false, .bool false, .bool false, .int .i64 0, .int .i64 0] 107 (0, 0)) ∧ Below w.heap.size w w' ∧ w.heap.size < g ∧ w'.heap[w.heap.size]? = some (.cells #[.int .i64 2, .int .u32 mine, .int .u32 boot, .int .u32 yours, .int .u32 seq, .int .u32 ack, .int .u32 stamp, .int .u32 echo, .complex .f64 zr zi, .slice A body.length c] 27 (0, 0))) ?_ ?_
  rotate_left
  · intro hcont
    refine two_ (i := 0) (j := 4) (Ni := some 12) (Nj := some 5) #[true, true, true, false, false, false] #[false, true, true, false, true, false] rfl rfl rfl rfl (by kernel_rfl) (by decide) (by decide) (fun K hK => ?_) (fun K hK => ?_)
    · skip
      refine goes_ Try.func59 (by kernel_rfl) rfl #[] (by rfl) rfl rfl (by (try simp only [List.map_toArray, List.map_cons, List.map_nil]); first | done | rfl) ?_
      refine (rows_any _).mono ?_
      rintro e w3 ⟨rfl, hb⟩
      refine ⟨_, rfl, ?_⟩
      have hH9 := (hb.block w.heap.size (blk_lt hHeld)).trans hHeld
      have HW9 := HW.out.trans (hb.mono HW.out.size)
      clear HW hb
      have HW := Lib.hid HW9
      clear HW9
      refine hK.out _ _ hH9 (fun hHeld => ?_)
      clear hK K hH9
      refine norm_ (a' := ?_) ?_ ?_
      rotate_left
      · show Act.put _ (some 12) _ = _
        simp only [Act.put, List.setIfInBounds_toArray, List.set_cons_zero, List.set_cons_succ]
        rfl
      refine pure_ (i := 3) (N := some 15) (v := ?_) (a' := ?_) #[true, true, true, true, false, false] rfl rfl (by kernel_rfl) (fun _ _ _ h => h) (Or.inl ⟨by rfl, ?_⟩) ?_ ?_
      rotate_left
      · intro w'
        go_simp
        with_reducible rfl
      rotate_left
      · simp only [Act.put, List.setIfInBounds_toArray, List.set_cons_zero, List.set_cons_succ]
        rfl
      refine one_ (i := 4) (N := some 5) #[true, true, true, true, true, false] rfl rfl (by kernel_rfl) (by decide) (fun K hK => ?_)
      refine box_step (by rfl) (N := 5) rfl (cs := #[.bool false, .bool false, .bool false, .bool false, .int .i64 0, .int .i64 0]) (t := 107) (by first | (go_simp; done) | (go_simp; rfl)) ?_
      intro g hg w4 hbx hb3
      have hgt : w.heap.size < g := by have := blk_lt hHeld; omega
      have hH9 := (hb3.block w.heap.size (blk_lt hHeld)).trans hHeld
      have HW9 := HW.out.trans (hb3.mono HW.out.size)
      clear HW hb3 hg
      have HW := Lib.hid HW9
      clear HW9
      refine hK.out _ _ hH9 (fun hHeld => ?_)
      clear hK K hH9
      refine norm_ (a' := ?_) ?_ ?_
      rotate_left
      · show Act.put _ (some 5) _ = _
        simp only [Act.put, List.setIfInBounds_toArray, List.set_cons_zero, List.set_cons_succ]
        rfl
      have h9 := hcont g _ ⟨hbx, HW.out, hgt, hHeld⟩
      simp only [putAll, Act.put, List.setIfInBounds_toArray, List.set_cons_zero, List.set_cons_succ] at h9
      exact h9
    · skip
      refine box_step (by rfl) (N := 5) rfl (cs := #[.bool false, .bool false, .bool false, .bool false, .int .i64 0, .int .i64 0]) (t := 107) (by first | (go_simp; done) | (go_simp; rfl)) ?_
      intro g hg w4 hbx hb3
      have hgt : w.heap.size < g := by have := blk_lt hHeld; omega
      have hH9 := (hb3.block w.heap.size (blk_lt hHeld)).trans hHeld
      have HW9 := HW.out.trans (hb3.mono HW.out.size)
      clear HW hb3 hg
      have HW := Lib.hid HW9
      clear HW9
      refine hK.out _ _ hH9 (fun hHeld => ?_)
      clear hK K hH9
      refine norm_ (a' := ?_) ?_ ?_
      rotate_left
      · show Act.put _ (some 5) _ = _
        simp only [Act.put, List.setIfInBounds_toArray, List.set_cons_zero, List.set_cons_succ]
        rfl
      refine one_ (i := 0) (N := some 12) #[true, true, true, false, true, false] rfl rfl (by kernel_rfl) (by decide) (fun K hK => ?_)
      refine goes_ Try.func59 (by kernel_rfl) rfl #[] (by rfl) rfl rfl (by (try simp only [List.map_toArray, List.map_cons, List.map_nil]); first | done | rfl) ?_
      refine (rows_any _).mono ?_
      rintro e w3 ⟨rfl, hb⟩
      refine ⟨_, rfl, ?_⟩
      have hH9 := (hb.block w.heap.size (blk_lt hHeld)).trans hHeld
      have HW9 := HW.out.trans (hb.mono HW.out.size)
      have hB9 := (hb.block g (blk_lt hbx)).trans hbx
      clear HW hb
      have HW := Lib.hid HW9
      clear HW9
      refine hK.out _ _ hH9 (fun hHeld => ?_)
      clear hK K hH9
      refine norm_ (a' := ?_) ?_ ?_
      rotate_left
      · show Act.put _ (some 12) _ = _
        simp only [Act.put, List.setIfInBounds_toArray, List.set_cons_zero, List.set_cons_succ]
        rfl
      refine pure_ (i := 3) (N := some 15) (v := ?_) (a' := ?_) #[true, true, true, true, true, false] rfl rfl (by kernel_rfl) (fun _ _ _ h => h) (Or.inl ⟨by rfl, ?_⟩) ?_ ?_
      rotate_left
      · intro w'
        go_simp
        with_reducible rfl
      rotate_left
      · simp only [Act.put, List.setIfInBounds_toArray, List.set_cons_zero, List.set_cons_succ]
        rfl
      have h9 := hcont g _ ⟨hB9, HW.out, hgt, hHeld⟩
      simp only [putAll, Act.put, List.setIfInBounds_toArray, List.set_cons_zero, List.set_cons_succ] at h9
      exact h9
  intro g w3 ⟨hbx, hbel, hgt, hHeld⟩
  clear HW
  refine norm_ (a' := ?_) ?_ ?_
  rotate_left
  · show putAll _ _ = _
    simp only [putAll, Act.put, List.setIfInBounds_toArray, List.set_cons_zero, List.set_cons_succ]
    rfl
  have hd0 : w3.cell? ⟨g, 0, none⟩ = some (.bool false) := (blk_cell hbx 0).trans rfl
  have hf0 := blk_frozen hbx 0
  have hd1 : w3.cell? ⟨g, 1, none⟩ = some (.bool false) := (blk_cell hbx 1).trans rfl
  have hf1 := blk_frozen hbx 1
  have hd2 : w3.cell? ⟨g, 2, none⟩ = some (.bool false) := (blk_cell hbx 2).trans rfl
  have hf2 := blk_frozen hbx 2
  have hd3 : w3.cell? ⟨g, 3, none⟩ = some (.bool false) := (blk_cell hbx 3).trans rfl
  have hf3 := blk_frozen hbx 3
  have hd4 : w3.cell? ⟨g, 4, none⟩ = some (.int .i64 0) := (blk_cell hbx 4).trans rfl
  have hf4 := blk_frozen hbx 4
  have hd5 : w3.cell? ⟨g, 5, none⟩ = some (.int .i64 0) := (blk_cell hbx 5).trans rfl
  have hf5 := blk_frozen hbx 5
  refine one_ (i := 5) (N := none) #[true, true, true, true, true, true] rfl rfl (by kernel_rfl) (by decide) (fun K hK => ?_)
  refine skip_F (fun wz => wz.heap[g]? = some (.cells #[.bool true, .bool true, .bool false, .bool true, .int .i64 22, .int .i64 1021] 107 (0, 0)) ∧ At g w3 wz) (by rfl) rfl ⟨_, by first | (go_simp; done) | (go_simp; rfl), ?_, ?_⟩ (fun w4 hF => ?_)
  · skip
    refine blk_put (cs := #[.bool true, .bool true, .bool false, .bool true, .int .i64 22, .int .i64 0]) ?_ 5 _ rfl
    refine blk_put (cs := #[.bool true, .bool true, .bool false, .bool true, .int .i64 0, .int .i64 0]) ?_ 4 _ rfl
    refine blk_put (cs := #[.bool true, .bool true, .bool false, .bool false, .int .i64 0, .int .i64 0]) ?_ 3 _ rfl
    refine blk_put (cs := #[.bool true, .bool true, .bool false, .bool false, .int .i64 0, .int .i64 0]) ?_ 2 _ rfl
    refine blk_put (cs := #[.bool true, .bool false, .bool false, .bool false, .int .i64 0, .int .i64 0]) ?_ 1 _ rfl
    refine blk_put (cs := #[.bool false, .bool false, .bool false, .bool false, .int .i64 0, .int .i64 0]) ?_ 0 _ rfl
    exact hbx
  · repeat (first | (with_reducible exact At.refl _ _) | refine At.set ?_ _ _)
  obtain ⟨hB4, hat⟩ := hF
  have hX4 := (hat.block w.heap.size (by omega)).trans hHeld
  have HW := Lib.hid (hat.below hbel (by omega))
  have HB := Lib.hid hB4
  clear hbx hbel hat hHeld hB4 hd0 hf0 hd1 hf1 hd2 hf2 hd3 hf3 hd4 hf4 hd5 hf5
  refine hK.out _ _ hX4 (fun hHeld => ?_)
  clear hK K hX4
  refine done_ (by kernel_rfl) ?_
  have HX := Lib.hid hHeld
  clear hHeld
  go_wp2_with fail
  have HX9 : w4.drew.heap[w.heap.size]? = some (.cells #[.int .i64 2, .int .u32 mine, .int .u32 boot, .int .u32 yours, .int .u32 seq, .int .u32 ack, .int .u32 stamp, .int .u32 echo, .complex .f64 zr zi, .slice A body.length c] 27 (0, 0)) := HX.out
  have HB9 : w4.drew.heap[g]? = some (.cells #[.bool true, .bool true, .bool false, .bool true, .int .i64 22, .int .i64 1021] 107 (0, 0)) := HB.out
  have HW9 : Below w.heap.size w w4.drew := bl_drew HW.out
  clear HX HB HW
  have HB := Lib.hid HB9
  have HW := Lib.hid HW9
  clear HB9 HW9
  refine start_ (n := 17) (S := fun w' => w'.heap[w.heap.size]? = some (.cells #[.int .i64 2, .int .u32 mine, .int .u32 boot, .int .u32 yours, .int .u32 seq, .int .u32 ack, .int .u32 stamp, .int .u32 echo, .complex .f64 zr zi, .slice A body.length c] 27 (0, 0))) (ds := []) #[false, false, false, false, false, false, false, false, false, false, false, false, false, false, false, false, false] (by kernel_rfl) rfl rfl (HX9) (fun hHeld => ?_)
  generalize w4.drew = w5 at HB HW hHeld ⊢
  refine pure_ (i := 0) (N := some 16) (v := ?_) (a' := ?_) #[true, false, false, false, false, false, false, false, false, false, false, false, false, false, false, false, false] rfl rfl (by kernel_rfl) (fun _ _ _ h => h) (Or.inl ⟨by rfl, ?_⟩) ?_ ?_
  rotate_left
  · intro w'
    go_simp
    with_reducible rfl
  rotate_left
  · simp only [Act.put, List.setIfInBounds_toArray, List.set_cons_zero, List.set_cons_succ]
    rfl
  refine take_ (i := 1) (N := some 17) (v := ?_) (a' := ?_) #[true, true, false, false, false, false, false, false, false, false, false, false, false, false, false, false, false] rfl rfl (by kernel_rfl) (fun _ _ _ h => h) (Or.inl ⟨by rfl, ?_⟩) hHeld ?_ ?_
  rotate_left
  · intro w' s0
    have hc0 : w'.cell? ⟨w.heap.size, 0, none⟩ = some (.int .i64 2) := (blk_cell s0 0).trans rfl
    clear s0
    go_simp
    with_reducible rfl
  rotate_left
  · simp only [Act.put, List.setIfInBounds_toArray, List.set_cons_zero, List.set_cons_succ]
    rfl
  refine pure_ (i := 2) (N := some 18) (v := ?_) (a' := ?_) #[true, true, true, false, false, false, false, false, false, false, false, false, false, false, false, false, false] rfl rfl (by kernel_rfl) (fun _ _ _ h => h) (Or.inl ⟨by rfl, ?_⟩) ?_ ?_
  rotate_left
  · intro w'
    go_simp
    with_reducible rfl
  rotate_left
  · simp only [Act.put, List.setIfInBounds_toArray, List.set_cons_zero, List.set_cons_succ]
    rfl
  refine pure_ (i := 4) (N := some 20) (v := ?_) (a' := ?_) #[true, true, true, false, true, false, false, false, false, false, false, false, false, false, false, false, false] rfl rfl (by kernel_rfl) (fun _ _ _ h => h) (Or.inl ⟨by rfl, ?_⟩) ?_ ?_
  rotate_left
  · intro w'
    go_simp
    with_reducible rfl
  rotate_left
  · simp only [Act.put, List.setIfInBounds_toArray, List.set_cons_zero, List.set_cons_succ]
    rfl
  refine take_ (i := 5) (N := some 21) (v := ?_) (a' := ?_) #[true, true, true, false, true, true, false, false, false, false, false, false, false, false, false, false, false] rfl rfl (by kernel_rfl) (fun _ _ _ h => h) (Or.inl ⟨by rfl, ?_⟩) hHeld ?_ ?_
  rotate_left
  · intro w' s0
    have hc1 : w'.cell? ⟨w.heap.size, 1, none⟩ = some (.int .u32 mine) := (blk_cell s0 1).trans rfl
    clear s0
    go_simp
    with_reducible rfl
  rotate_left
  · simp only [Act.put, List.setIfInBounds_toArray, List.set_cons_zero, List.set_cons_succ]
    rfl
  refine pure_ (i := 6) (N := some 22) (v := ?_) (a' := ?_) #[true, true, true, false, true, true, true, false, false, false, false, false, false, false, false, false, false] rfl rfl (by kernel_rfl) (fun _ _ _ h => h) (Or.inl ⟨by rfl, ?_⟩) ?_ ?_
  rotate_left
  · intro w'
    go_simp
    with_reducible rfl
  rotate_left
  · simp only [Act.put, List.setIfInBounds_toArray, List.set_cons_zero, List.set_cons_succ]
    rfl
  refine pure_ (i := 8) (N := some 24) (v := ?_) (a' := ?_) #[true, true, true, false, true, true, true, false, true, false, false, false, false, false, false, false, false] rfl rfl (by kernel_rfl) (fun _ _ _ h => h) (Or.inl ⟨by rfl, ?_⟩) ?_ ?_
  rotate_left
  · intro w'
    go_simp
    with_reducible rfl
  rotate_left
  · simp only [Act.put, List.setIfInBounds_toArray, List.set_cons_zero, List.set_cons_succ]
    rfl
  refine take_ (i := 9) (N := some 25) (v := ?_) (a' := ?_) #[true, true, true, false, true, true, true, false, true, true, false, false, false, false, false, false, false] rfl rfl (by kernel_rfl) (fun _ _ _ h => h) (Or.inl ⟨by rfl, ?_⟩) hHeld ?_ ?_
  rotate_left
  · intro w' s0
    have hc2 : w'.cell? ⟨w.heap.size, 2, none⟩ = some (.int .u32 boot) := (blk_cell s0 2).trans rfl
    clear s0
    go_simp
    with_reducible rfl
  rotate_left
  · simp only [Act.put, List.setIfInBounds_toArray, List.set_cons_zero, List.set_cons_succ]
    rfl
  refine pure_ (i := 10) (N := some 26) (v := ?_) (a' := ?_) #[true, true, true, false, true, true, true, false, true, true, true, false, false, false, false, false, false] rfl rfl (by kernel_rfl) (fun _ _ _ h => h) (Or.inl ⟨by rfl, ?_⟩) ?_ ?_
  rotate_left
  · intro w'
    go_simp
    with_reducible rfl
  rotate_left
  · simp only [Act.put, List.setIfInBounds_toArray, List.set_cons_zero, List.set_cons_succ]
    rfl
  refine pure_ (i := 12) (N := some 28) (v := ?_) (a' := ?_) #[true, true, true, false, true, true, true, false, true, true, true, false, true, false, false, false, false] rfl rfl (by kernel_rfl) (fun _ _ _ h => h) (Or.inl ⟨by rfl, ?_⟩) ?_ ?_
  rotate_left
  · intro w'
    go_simp
    with_reducible rfl
  rotate_left
  · simp only [Act.put, List.setIfInBounds_toArray, List.set_cons_zero, List.set_cons_succ]
    rfl
  refine take_ (i := 13) (N := some 29) (v := ?_) (a' := ?_) #[true, true, true, false, true, true, true, false, true, true, true, false, true, true, false, false, false] rfl rfl (by kernel_rfl) (fun _ _ _ h => h) (Or.inl ⟨by rfl, ?_⟩) hHeld ?_ ?_
  rotate_left
  · intro w' s0
    have hc3 : w'.cell? ⟨w.heap.size, 3, none⟩ = some (.int .u32 yours) := (blk_cell s0 3).trans rfl
    clear s0
    go_simp
    with_reducible rfl
  rotate_left
  · simp only [Act.put, List.setIfInBounds_toArray, List.set_cons_zero, List.set_cons_succ]
    rfl
  refine pure_ (i := 14) (N := some 30) (v := ?_) (a' := ?_) #[true, true, true, false, true, true, true, false, true, true, true, false, true, true, true, false, false] rfl rfl (by kernel_rfl) (fun _ _ _ h => h) (Or.inl ⟨by rfl, ?_⟩) ?_ ?_
  rotate_left
  · intro w'
    go_simp
    with_reducible rfl
  rotate_left
  · simp only [Act.put, List.setIfInBounds_toArray, List.set_cons_zero, List.set_cons_succ]
    rfl
  refine one_ (i := 3) (N := some 19) #[true, true, true, true, true, true, true, false, true, true, true, false, true, true, true, false, false] rfl rfl (by kernel_rfl) (by decide) (fun K hK => ?_)
  refine value_ (v := .slice (some ⟨w5.heap.size, 0, none⟩) 1 1) (by rfl) rfl (w1 := w5.alloc (.cells #[.int .u8 2] 5)) ?_ ?_
  · first | (go_simp; done) | (go_simp; rfl)
  have hb9 := (Below.refl w5.heap.size w5).alloc (Nat.le_refl _) (.cells #[.int .u8 2] 5)
  have hR9 := lit_R w5 w.heap.size [2] HW.out.size (by decide)
  have hR8 : (Kd.int .u8).R 5 (w5.alloc (.cells #[.int .u8 2] 5)) w.heap.size (fun _ => True) (.slice (some ⟨w5.heap.size, 0, none⟩) 1 1) [2] := hR9
  have hX9 := (hb9.block w.heap.size (blk_lt hHeld)).trans hHeld
  have hB9 := (hb9.block g (blk_lt HB.out)).trans HB.out
  have HW9 := HW.out.trans (hb9.mono HW.out.size)
  generalize hv0 : Value.slice (some ⟨w5.heap.size, 0, none⟩) 1 1 = v0 at hR8 ⊢
  clear hv0 hb9 hR9
  generalize w5.alloc (.cells #[.int .u8 2] 5) = w6 at hR8 hX9 hB9 HW9 ⊢
  clear HW HB
  have HR := Lib.hid hR8
  have HW := Lib.hid HW9
  have HB := Lib.hid hB9
  clear hR8 HW9 hB9
  refine hK.out _ _ hX9 (fun hHeld => ?_)
  clear hK K hX9
  refine norm_ (a' := ?_) ?_ ?_
  rotate_left
  · show Act.put _ (some 19) _ = _
    simp only [Act.put, List.setIfInBounds_toArray, List.set_cons_zero, List.set_cons_succ]
    rfl
  refine one_ (i := 7) (N := some 23) #[true, true, true, true, true, true, true, true, true, true, true, false, true, true, true, false, false] rfl rfl (by kernel_rfl) (by decide) (fun K hK => ?_)
  refine goes_ Try.func64 (by kernel_rfl) rfl #[v0, .int .u64 (IntKind.u64.wrap mine), .int .i64 4] (by rfl) rfl rfl (by (try simp only [List.map_toArray, List.map_cons, List.map_nil]); first | done | rfl) ?_
  refine (put4_any w _ _ _ _ HW.out HR.out (by have := HL.out; simp [put4, put8]; try omega)).mono ?_
  rintro e w7 ⟨v7, rfl, hR9, hBl, hkeep⟩
  have hX9 := hkeep w.heap.size _ 27 (by decide) hHeld
  have hB9 := hkeep g _ 107 (by decide) HB.out
  clear HR HB HW hkeep
  have HR := Lib.hid hR9
  have HB := Lib.hid hB9
  have HW := Lib.hid hBl
  clear hR9 hB9 hBl
  refine ⟨_, rfl, ?_⟩
  refine hK.out _ _ hX9 (fun hHeld => ?_)
  clear hK K hX9
  refine norm_ (a' := ?_) ?_ ?_
  rotate_left
  · show Act.put _ (some 23) _ = _
    simp only [Act.put, List.setIfInBounds_toArray, List.set_cons_zero, List.set_cons_succ]
    rfl
  refine one_ (i := 11) (N := some 27) #[true, true, true, true, true, true, true, true, true, true, true, true, true, true, true, false, false] rfl rfl (by kernel_rfl) (by decide) (fun K hK => ?_)
  refine goes_ Try.func64 (by kernel_rfl) rfl #[v7, .int .u64 (IntKind.u64.wrap boot), .int .i64 4] (by rfl) rfl rfl (by (try simp only [List.map_toArray, List.map_cons, List.map_nil]); first | done | rfl) ?_
  refine (put4_any w _ _ _ _ HW.out HR.out (by have := HL.out; simp [put4, put8]; try omega)).mono ?_
  rintro e w8 ⟨v8, rfl, hR9, hBl, hkeep⟩
  have hX9 := hkeep w.heap.size _ 27 (by decide) hHeld
  have hB9 := hkeep g _ 107 (by decide) HB.out
  clear HR HB HW hkeep
  have HR := Lib.hid hR9
  have HB := Lib.hid hB9
  have HW := Lib.hid hBl
  clear hR9 hB9 hBl
  refine ⟨_, rfl, ?_⟩
  refine hK.out _ _ hX9 (fun hHeld => ?_)
  clear hK K hX9
  refine norm_ (a' := ?_) ?_ ?_
  rotate_left
  · show Act.put _ (some 27) _ = _
    simp only [Act.put, List.setIfInBounds_toArray, List.set_cons_zero, List.set_cons_succ]
    rfl
  refine one_ (i := 15) (N := some 31) #[true, true, true, true, true, true, true, true, true, true, true, true, true, true, true, true, false] rfl rfl (by kernel_rfl) (by decide) (fun K hK => ?_)
  refine goes_ Try.func64 (by kernel_rfl) rfl #[v8, .int .u64 (IntKind.u64.wrap yours), .int .i64 4] (by rfl) rfl rfl (by (try simp only [List.map_toArray, List.map_cons, List.map_nil]); first | done | rfl) ?_
  refine (put4_any w _ _ _ _ HW.out HR.out (by have := HL.out; simp [put4, put8]; try omega)).mono ?_
  rintro e w9 ⟨v9, rfl, hR9, hBl, hkeep⟩
  have hX9 := hkeep w.heap.size _ 27 (by decide) hHeld
  have hB9 := hkeep g _ 107 (by decide) HB.out
  clear HR HB HW hkeep
  have HR := Lib.hid hR9
  have HB := Lib.hid hB9
  have HW := Lib.hid hBl
  clear hR9 hB9 hBl
  refine ⟨_, rfl, ?_⟩
  refine hK.out _ _ hX9 (fun hHeld => ?_)
  clear hK K hX9
  refine norm_ (a' := ?_) ?_ ?_
  rotate_left
  · show Act.put _ (some 31) _ = _
    simp only [Act.put, List.setIfInBounds_toArray, List.set_cons_zero, List.set_cons_succ]
    rfl
  refine pure_ (i := 16) (N := some 6) (v := ?_) (a' := ?_) #[true, true, true, true, true, true, true, true, true, true, true, true, true, true, true, true, true] rfl rfl (by kernel_rfl) (fun _ _ _ h => h) (Or.inl ⟨by rfl, ?_⟩) ?_ ?_
  rotate_left
  · intro w'
    go_simp
    with_reducible rfl
  rotate_left
  · simp only [Act.put, List.setIfInBounds_toArray, List.set_cons_zero, List.set_cons_succ]
    rfl
  refine done_ (by kernel_rfl) ?_
  have HX := Lib.hid hHeld
  clear hHeld
  have hc0 : w9.cell? ⟨w.heap.size, 0, none⟩ = some (.int .i64 2) := (blk_cell HX.out 0).trans rfl
  have hc1 : w9.cell? ⟨w.heap.size, 1, none⟩ = some (.int .u32 mine) := (blk_cell HX.out 1).trans rfl
  have hc2 : w9.cell? ⟨w.heap.size, 2, none⟩ = some (.int .u32 boot) := (blk_cell HX.out 2).trans rfl
  have hc3 : w9.cell? ⟨w.heap.size, 3, none⟩ = some (.int .u32 yours) := (blk_cell HX.out 3).trans rfl
  have hc4 : w9.cell? ⟨w.heap.size, 4, none⟩ = some (.int .u32 seq) := (blk_cell HX.out 4).trans rfl
  have hc5 : w9.cell? ⟨w.heap.size, 5, none⟩ = some (.int .u32 ack) := (blk_cell HX.out 5).trans rfl
  have hc6 : w9.cell? ⟨w.heap.size, 6, none⟩ = some (.int .u32 stamp) := (blk_cell HX.out 6).trans rfl
  have hc7 : w9.cell? ⟨w.heap.size, 7, none⟩ = some (.int .u32 echo) := (blk_cell HX.out 7).trans rfl
  have hc8 : w9.cell? ⟨w.heap.size, 8, none⟩ = some (.complex .f64 zr zi) := (blk_cell HX.out 8).trans rfl
  have hc9 : w9.cell? ⟨w.heap.size, 9, none⟩ = some (.slice A body.length c) := (blk_cell HX.out 9).trans rfl
  have hr0 : w9.cell? ⟨g, 0, none⟩ = some (.bool true) := (blk_cell HB.out 0).trans rfl
  have hr1 : w9.cell? ⟨g, 1, none⟩ = some (.bool true) := (blk_cell HB.out 1).trans rfl
  have hr2 : w9.cell? ⟨g, 2, none⟩ = some (.bool false) := (blk_cell HB.out 2).trans rfl
  have hr3 : w9.cell? ⟨g, 3, none⟩ = some (.bool true) := (blk_cell HB.out 3).trans rfl
  go_wp2_with (first | ((go_at_call 64); (with_reducible refine (put4_any w w9 v9 _ _ HW.out HR.out (by have := HL.out; simp [put4, put8]; try omega)).mono ?_); (rintro e w10 ⟨v10, rfl, hR9, hBl, hkeep⟩); (have hX9 := hkeep w.heap.size _ 27 (by decide) HX.out); (have hB9 := hkeep g _ 107 (by decide) HB.out); (clear HR HB HW hkeep); (have HR := Lib.hid hR9); (have HB := Lib.hid hB9); (have HW := Lib.hid hBl); (clear hR9 hB9 hBl); (clear HX); (have HX := Lib.hid hX9); (clear hX9); (have hc0 : w10.cell? ⟨w.heap.size, 0, none⟩ = some (.int .i64 2) := (blk_cell HX.out 0).trans rfl); (have hc1 : w10.cell? ⟨w.heap.size, 1, none⟩ = some (.int .u32 mine) := (blk_cell HX.out 1).trans rfl); (have hc2 : w10.cell? ⟨w.heap.size, 2, none⟩ = some (.int .u32 boot) := (blk_cell HX.out 2).trans rfl); (have hc3 : w10.cell? ⟨w.heap.size, 3, none⟩ = some (.int .u32 yours) := (blk_cell HX.out 3).trans rfl); (have hc4 : w10.cell? ⟨w.heap.size, 4, none⟩ = some (.int .u32 seq) := (blk_cell HX.out 4).trans rfl); (have hc5 : w10.cell? ⟨w.heap.size, 5, none⟩ = some (.int .u32 ack) := (blk_cell HX.out 5).trans rfl); (have hc6 : w10.cell? ⟨w.heap.size, 6, none⟩ = some (.int .u32 stamp) := (blk_cell HX.out 6).trans rfl); (have hc7 : w10.cell? ⟨w.heap.size, 7, none⟩ = some (.int .u32 echo) := (blk_cell HX.out 7).trans rfl); (have hc8 : w10.cell? ⟨w.heap.size, 8, none⟩ = some (.complex .f64 zr zi) := (blk_cell HX.out 8).trans rfl); (have hc9 : w10.cell? ⟨w.heap.size, 9, none⟩ = some (.slice A body.length c) := (blk_cell HX.out 9).trans rfl); (have hr0 : w10.cell? ⟨g, 0, none⟩ = some (.bool true) := (blk_cell HB.out 0).trans rfl); (have hr1 : w10.cell? ⟨g, 1, none⟩ = some (.bool true) := (blk_cell HB.out 1).trans rfl); (have hr2 : w10.cell? ⟨g, 2, none⟩ = some (.bool false) := (blk_cell HB.out 2).trans rfl); (have hr3 : w10.cell? ⟨g, 3, none⟩ = some (.bool true) := (blk_cell HB.out 3).trans rfl)) | ((go_at_call 64); (with_reducible refine (put4_any w w10 v10 _ _ HW.out HR.out (by have := HL.out; simp [put4, put8]; try omega)).mono ?_); (rintro e w11 ⟨v11, rfl, hR9, hBl, hkeep⟩); (have hX9 := hkeep w.heap.size _ 27 (by decide) HX.out); (have hB9 := hkeep g _ 107 (by decide) HB.out); (clear HR HB HW hkeep); (have HR := Lib.hid hR9); (have HB := Lib.hid hB9); (have HW := Lib.hid hBl); (clear hR9 hB9 hBl); (clear HX); (have HX := Lib.hid hX9); (clear hX9); (have hc0 : w11.cell? ⟨w.heap.size, 0, none⟩ = some (.int .i64 2) := (blk_cell HX.out 0).trans rfl); (have hc1 : w11.cell? ⟨w.heap.size, 1, none⟩ = some (.int .u32 mine) := (blk_cell HX.out 1).trans rfl); (have hc2 : w11.cell? ⟨w.heap.size, 2, none⟩ = some (.int .u32 boot) := (blk_cell HX.out 2).trans rfl); (have hc3 : w11.cell? ⟨w.heap.size, 3, none⟩ = some (.int .u32 yours) := (blk_cell HX.out 3).trans rfl); (have hc4 : w11.cell? ⟨w.heap.size, 4, none⟩ = some (.int .u32 seq) := (blk_cell HX.out 4).trans rfl); (have hc5 : w11.cell? ⟨w.heap.size, 5, none⟩ = some (.int .u32 ack) := (blk_cell HX.out 5).trans rfl); (have hc6 : w11.cell? ⟨w.heap.size, 6, none⟩ = some (.int .u32 stamp) := (blk_cell HX.out 6).trans rfl); (have hc7 : w11.cell? ⟨w.heap.size, 7, none⟩ = some (.int .u32 echo) := (blk_cell HX.out 7).trans rfl); (have hc8 : w11.cell? ⟨w.heap.size, 8, none⟩ = some (.complex .f64 zr zi) := (blk_cell HX.out 8).trans rfl); (have hc9 : w11.cell? ⟨w.heap.size, 9, none⟩ = some (.slice A body.length c) := (blk_cell HX.out 9).trans rfl); (have hr0 : w11.cell? ⟨g, 0, none⟩ = some (.bool true) := (blk_cell HB.out 0).trans rfl); (have hr1 : w11.cell? ⟨g, 1, none⟩ = some (.bool true) := (blk_cell HB.out 1).trans rfl); (have hr2 : w11.cell? ⟨g, 2, none⟩ = some (.bool false) := (blk_cell HB.out 2).trans rfl); (have hr3 : w11.cell? ⟨g, 3, none⟩ = some (.bool true) := (blk_cell HB.out 3).trans rfl)) | ((with_reducible refine gate_dst (N := 78) rfl ?_); (refine Kd.R_append_row (h1 := fun _ => rfl) (Value.int .u8) 0 (w0 := w) w.heap.size rfl (.tmp 75) (.tmp 77) 22 5 (.int .u8 0) 1 rfl Try.underlying22 info5 rfl (by decide) v11 _ (body) _ _ _ (fun _ => True) rfl rfl (fun _ _ => trivial) HR.out (Kd.C_below HC.out HW.out) HW.out HW.out.size (by have := HL.out; simp [put4, put8]; try omega) ?_); (intro v12 w12 hR9 hBl _ _); (clear HR HW); (have HR := Lib.hid hR9); (have HW := Lib.hid hBl); (clear hR9 hBl)))
  go_ret2
  unfold EncPost
  exact ⟨_, rfl, HR.out, HW.out⟩
end Go.Proofs.Ytnkkgofpifhoeaa.Ek2
