/- hello: what an end says of itself. -/
import Derived.Test.YtnkkgofpifhoeaaLk2
namespace Go.Proofs.Ytnkkgofpifhoeaa.Lk
open Go.RowKit Go.Proofs.Ytnkkgofpifhoeaa.Base Go.Proofs.Ytnkkgofpifhoeaa.Steps Go.Proofs.YtnkkgofpifhoeaaW.PrintWords Go.Proofs.YtnkkgofpifhoeaaW.PrintLast
set_option linter.unusedSimpArgs false
set_option linter.unusedVariables false
def helloP (L : Lk) : Pkt := ⟨1, L.token, if L.known then L.boot else 0, if L.known then L.yours else 0, if L.phase = 2 then 1 else 0, 0, 0, 0, 0, 0, []⟩
/-- The link's block and the packet's. -/
def HB (w0 : World) (g r : Nat) (L : Lk) (q o : Value) (mine boot yours seq : Int) (w : World) : Prop :=
  w.heap[g]? = some (.cells (row L q o) 131 (0, 0)) ∧ w.heap[r]? = some (.cells #[.int .i64 1, .int .u32 mine, .int .u32 boot, .int .u32 yours, .int .u32 seq, .int .u32 0, .int .u32 0, .int .u32 0, .complex .f64 0 0, .slice none 0 0] 27 (0, 0)) ∧ Below w0.heap.size w0 w
theorem Emits.from_ {w w2 w' : World} {B g : Nat} {okq oko : Nat → Prop} {L : Lk} {q : Value} (hq : ∀ k, okq k → k < w.heap.size) (hg : g < w.heap.size) (hb : Below w.heap.size w w2) (hB : B ≤ w.heap.size) (h : Emits w2 B okq oko g L q w') : Emits w B okq oko g L q w' := by
  obtain ⟨o, h1, h2, h3⟩ := h
  have hs := hb.size
  refine ⟨o, ⟨h1.blk, h1.queue, Kd.R_mono h1.out (fun k hk => hk.elim (fun h => .inl h) (fun h => .inr ⟨by omega, h.2⟩)), h1.low, fun k hk ho => ?_, fun k hk => ?_⟩, (Kept.of_below hb _).then_ h2 (fun k hk => .inl hk), (hb.mono hB).trans h3⟩
  · rcases ho with ho | ho
    · exact h1.apart k hk (.inl ho)
    · have := hq k hk; omega
  · rcases hk with hk | hk | hk
    · exact h1.old k (.inl hk)
    · exact h1.old k (.inr (.inl hk))
    · exact ⟨hk.2, by omega⟩
set_option maxRecDepth 100000 in
set_option maxHeartbeats 1000000 in
theorem hello_no {w : World} {B g : Nat} {okq oko : Nat → Prop} {L : Lk} {q o : Value} (h : At w B okq oko g L q o) (hok : L.Ok) (hB : B ≤ w.heap.size) (hkn : L.known = false) (hph : ¬ L.phase = 2) :
    Calls Try.prog 73 #[.pointer (some ⟨g, 0, none⟩)] w fun e w' => e = .returned (.tuple #[]) ∧ Emits w B okq oko g (emit_ L (⟨1, L.token, 0, 0, 0, 0, 0, 0, 0, 0, []⟩ : Pkt)) q w' := by
  have hc2 : w.cell? ⟨g, 2, none⟩ = some (.int .u32 L.token) := (blk_cell h.blk 2).trans rfl
  have hgl : g < w.heap.size := blk_lt h.blk
  have H0 := Lib.hid h
  have OK := Lib.hid hok
  have HKN := Lib.hid hkn
  have HPH := Lib.hid hph
  clear h hok hkn
  go_enter Try.func73, Try.ntmps73
  go_wp2_with (first | ((with_reducible refine gate_ (.store 27 (.tmp 2) (.tmp 7)) rfl ?_); (refine store_row_F rfl rfl 27 (.tmp 2) (.tmp 7) rfl w.heap.size _ rfl rfl 27 _ (heap_alloc_new w _) (by kernel_rfl) rfl (by kernel_rfl) ?_); (intro w1 hb1 hat1); (have hbl := hat1.below ((Below.refl w.heap.size w).alloc (Nat.le_refl _) _) (Nat.le_refl _)); (have HW := Lib.hid (show HB w g w.heap.size L q o L.token 0 0 0 w1 from ⟨(hbl.block g hgl).trans H0.out.blk, hb1, hbl⟩)); (have hc5 : w1.cell? ⟨g, 5, none⟩ = some (.bool false) := (blk_cell HW.out.1 5).trans (by rw [← HKN.out]; rfl)); (clear hb1 hat1 hbl hc2); (have hc1 : w1.cell? ⟨g, 1, none⟩ = some (.int .i64 L.phase) := (blk_cell HW.out.1 1).trans rfl); (have hph := HPH.out)) | ((with_reducible refine gate_ (.store 24 (.tmp 27) (.const (.int .u32 1))) rfl ?_); (refine store_F (fun wz => HB w g w.heap.size L q o L.token 0 0 1 wz) rfl rfl ⟨_, (by have hz1 : World.cell? _ ⟨w.heap.size, 4, none⟩ = some _ := (blk_cell HW.out.2.1 4).trans rfl; have hz2 := blk_frozen HW.out.2.1 4; first | (go_simp; done) | (go_simp; rfl)), (Below.heap_setCell _ ⟨w.heap.size, 4, none⟩ _ g (by show g ≠ w.heap.size; omega)).trans HW.out.1, blk_put HW.out.2.1 4 _ rfl, HW.out.2.2.setCell (p := ⟨w.heap.size, 4, none⟩) (Nat.le_refl _) _⟩ (fun w5 hF => ?_)); (have HW9 := Lib.hid hF); (clear hF HW hc1); (have HW := HW9); (clear HW9)) | ((with_reducible refine gate_dst (N := 29) rfl ?_); (refine value_F (fun v wz => v = .agg #[.int .i64 1, .int .u32 L.token, .int .u32 0, .int .u32 0, .int .u32 0, .int .u32 0, .int .u32 0, .int .u32 0, .complex .f64 0 0, .slice none 0 0] ∧ HB w g w.heap.size L q o L.token 0 0 0 wz) rfl ⟨.agg #[.int .i64 1, .int .u32 L.token, .int .u32 0, .int .u32 0, .int .u32 0, .int .u32 0, .int .u32 0, .int .u32 0, .complex .f64 0 0, .slice none 0 0], _, (by have hu27 := Try.underlying27; have hd0 : World.cell? _ ⟨w.heap.size, 0, none⟩ = some (.int .i64 1) := (blk_cell HW.out.2.1 0).trans rfl; have hd1 : World.cell? _ ⟨w.heap.size, 1, none⟩ = some (.int .u32 L.token) := (blk_cell HW.out.2.1 1).trans rfl; have hd2 : World.cell? _ ⟨w.heap.size, 2, none⟩ = some (.int .u32 0) := (blk_cell HW.out.2.1 2).trans rfl; have hd3 : World.cell? _ ⟨w.heap.size, 3, none⟩ = some (.int .u32 0) := (blk_cell HW.out.2.1 3).trans rfl; have hd4 : World.cell? _ ⟨w.heap.size, 4, none⟩ = some (.int .u32 0) := (blk_cell HW.out.2.1 4).trans rfl; have hd5 : World.cell? _ ⟨w.heap.size, 5, none⟩ = some (.int .u32 0) := (blk_cell HW.out.2.1 5).trans rfl; have hd6 : World.cell? _ ⟨w.heap.size, 6, none⟩ = some (.int .u32 0) := (blk_cell HW.out.2.1 6).trans rfl; have hd7 : World.cell? _ ⟨w.heap.size, 7, none⟩ = some (.int .u32 0) := (blk_cell HW.out.2.1 7).trans rfl; have hd8 : World.cell? _ ⟨w.heap.size, 8, none⟩ = some (.complex .f64 0 0) := (blk_cell HW.out.2.1 8).trans rfl; have hd9 : World.cell? _ ⟨w.heap.size, 9, none⟩ = some (.slice none 0 0) := (blk_cell HW.out.2.1 9).trans rfl; first | (go_simp; done) | (go_simp; rfl)), rfl, HW.out⟩ (fun v9 w8 hF => ?_)); (obtain ⟨rfl, hF2⟩ := hF); (have HW9 := Lib.hid hF2); (clear hF2 HW); (have HW := HW9); (clear HW9)) | (go_at_call 80; (refine (emit_of (⟨1, L.token, 0, 0, 0, 0, 0, 0, 0, 0, []⟩ : Pkt) (.slice none 0 0) (H0.out.below HW.out.2.2) OK.out (Nat.le_trans hB HW.out.2.2.size) (okp := fun _ => False) (pkt_M.2 ⟨_, rfl, Kd.R_nil _ _ _ _ _⟩) (fun _ hk => hk.elim)).mono ?_); (rintro e w9 ⟨rfl, hE⟩); (have HE := Lib.hid (Emits.from_ (fun k hk => (H0.out.old k (.inl hk)).1) hgl HW.out.2.2 hB hE)); (clear hE HW)))
  all_goals (go_end0; exact ⟨rfl, HE.out⟩)
set_option maxRecDepth 100000 in
set_option maxHeartbeats 1000000 in
theorem hello_nu {w : World} {B g : Nat} {okq oko : Nat → Prop} {L : Lk} {q o : Value} (h : At w B okq oko g L q o) (hok : L.Ok) (hB : B ≤ w.heap.size) (hkn : L.known = false) (hph : L.phase = 2) :
    Calls Try.prog 73 #[.pointer (some ⟨g, 0, none⟩)] w fun e w' => e = .returned (.tuple #[]) ∧ Emits w B okq oko g (emit_ L (⟨1, L.token, 0, 0, 1, 0, 0, 0, 0, 0, []⟩ : Pkt)) q w' := by
  have hc2 : w.cell? ⟨g, 2, none⟩ = some (.int .u32 L.token) := (blk_cell h.blk 2).trans rfl
  have hgl : g < w.heap.size := blk_lt h.blk
  have H0 := Lib.hid h
  have OK := Lib.hid hok
  have HKN := Lib.hid hkn
  have HPH := Lib.hid hph
  clear h hok hkn
  go_enter Try.func73, Try.ntmps73
  go_wp2_with (first | ((with_reducible refine gate_ (.store 27 (.tmp 2) (.tmp 7)) rfl ?_); (refine store_row_F rfl rfl 27 (.tmp 2) (.tmp 7) rfl w.heap.size _ rfl rfl 27 _ (heap_alloc_new w _) (by kernel_rfl) rfl (by kernel_rfl) ?_); (intro w1 hb1 hat1); (have hbl := hat1.below ((Below.refl w.heap.size w).alloc (Nat.le_refl _) _) (Nat.le_refl _)); (have HW := Lib.hid (show HB w g w.heap.size L q o L.token 0 0 0 w1 from ⟨(hbl.block g hgl).trans H0.out.blk, hb1, hbl⟩)); (have hc5 : w1.cell? ⟨g, 5, none⟩ = some (.bool false) := (blk_cell HW.out.1 5).trans (by rw [← HKN.out]; rfl)); (clear hb1 hat1 hbl hc2); (have hc1 : w1.cell? ⟨g, 1, none⟩ = some (.int .i64 L.phase) := (blk_cell HW.out.1 1).trans rfl); (have hph := HPH.out)) | ((with_reducible refine gate_ (.store 24 (.tmp 27) (.const (.int .u32 1))) rfl ?_); (refine store_F (fun wz => HB w g w.heap.size L q o L.token 0 0 1 wz) rfl rfl ⟨_, (by have hz1 : World.cell? _ ⟨w.heap.size, 4, none⟩ = some _ := (blk_cell HW.out.2.1 4).trans rfl; have hz2 := blk_frozen HW.out.2.1 4; first | (go_simp; done) | (go_simp; rfl)), (Below.heap_setCell _ ⟨w.heap.size, 4, none⟩ _ g (by show g ≠ w.heap.size; omega)).trans HW.out.1, blk_put HW.out.2.1 4 _ rfl, HW.out.2.2.setCell (p := ⟨w.heap.size, 4, none⟩) (Nat.le_refl _) _⟩ (fun w5 hF => ?_)); (have HW9 := Lib.hid hF); (clear hF HW hc1); (have HW := HW9); (clear HW9)) | ((with_reducible refine gate_dst (N := 29) rfl ?_); (refine value_F (fun v wz => v = .agg #[.int .i64 1, .int .u32 L.token, .int .u32 0, .int .u32 0, .int .u32 1, .int .u32 0, .int .u32 0, .int .u32 0, .complex .f64 0 0, .slice none 0 0] ∧ HB w g w.heap.size L q o L.token 0 0 1 wz) rfl ⟨.agg #[.int .i64 1, .int .u32 L.token, .int .u32 0, .int .u32 0, .int .u32 1, .int .u32 0, .int .u32 0, .int .u32 0, .complex .f64 0 0, .slice none 0 0], _, (by have hu27 := Try.underlying27; have hd0 : World.cell? _ ⟨w.heap.size, 0, none⟩ = some (.int .i64 1) := (blk_cell HW.out.2.1 0).trans rfl; have hd1 : World.cell? _ ⟨w.heap.size, 1, none⟩ = some (.int .u32 L.token) := (blk_cell HW.out.2.1 1).trans rfl; have hd2 : World.cell? _ ⟨w.heap.size, 2, none⟩ = some (.int .u32 0) := (blk_cell HW.out.2.1 2).trans rfl; have hd3 : World.cell? _ ⟨w.heap.size, 3, none⟩ = some (.int .u32 0) := (blk_cell HW.out.2.1 3).trans rfl; have hd4 : World.cell? _ ⟨w.heap.size, 4, none⟩ = some (.int .u32 1) := (blk_cell HW.out.2.1 4).trans rfl; have hd5 : World.cell? _ ⟨w.heap.size, 5, none⟩ = some (.int .u32 0) := (blk_cell HW.out.2.1 5).trans rfl; have hd6 : World.cell? _ ⟨w.heap.size, 6, none⟩ = some (.int .u32 0) := (blk_cell HW.out.2.1 6).trans rfl; have hd7 : World.cell? _ ⟨w.heap.size, 7, none⟩ = some (.int .u32 0) := (blk_cell HW.out.2.1 7).trans rfl; have hd8 : World.cell? _ ⟨w.heap.size, 8, none⟩ = some (.complex .f64 0 0) := (blk_cell HW.out.2.1 8).trans rfl; have hd9 : World.cell? _ ⟨w.heap.size, 9, none⟩ = some (.slice none 0 0) := (blk_cell HW.out.2.1 9).trans rfl; first | (go_simp; done) | (go_simp; rfl)), rfl, HW.out⟩ (fun v9 w8 hF => ?_)); (obtain ⟨rfl, hF2⟩ := hF); (have HW9 := Lib.hid hF2); (clear hF2 HW); (have HW := HW9); (clear HW9)) | (go_at_call 80; (refine (emit_of (⟨1, L.token, 0, 0, 1, 0, 0, 0, 0, 0, []⟩ : Pkt) (.slice none 0 0) (H0.out.below HW.out.2.2) OK.out (Nat.le_trans hB HW.out.2.2.size) (okp := fun _ => False) (pkt_M.2 ⟨_, rfl, Kd.R_nil _ _ _ _ _⟩) (fun _ hk => hk.elim)).mono ?_); (rintro e w9 ⟨rfl, hE⟩); (have HE := Lib.hid (Emits.from_ (fun k hk => (H0.out.old k (.inl hk)).1) hgl HW.out.2.2 hB hE)); (clear hE HW)))
  all_goals (go_end0; exact ⟨rfl, HE.out⟩)
set_option maxRecDepth 100000 in
set_option maxHeartbeats 1000000 in
theorem hello_ko {w : World} {B g : Nat} {okq oko : Nat → Prop} {L : Lk} {q o : Value} (h : At w B okq oko g L q o) (hok : L.Ok) (hB : B ≤ w.heap.size) (hkn : L.known = true) (hph : ¬ L.phase = 2) :
    Calls Try.prog 73 #[.pointer (some ⟨g, 0, none⟩)] w fun e w' => e = .returned (.tuple #[]) ∧ Emits w B okq oko g (emit_ L (⟨1, L.token, L.boot, L.yours, 0, 0, 0, 0, 0, 0, []⟩ : Pkt)) q w' := by
  have hc2 : w.cell? ⟨g, 2, none⟩ = some (.int .u32 L.token) := (blk_cell h.blk 2).trans rfl
  have hgl : g < w.heap.size := blk_lt h.blk
  have H0 := Lib.hid h
  have OK := Lib.hid hok
  have HKN := Lib.hid hkn
  have HPH := Lib.hid hph
  clear h hok hkn
  go_enter Try.func73, Try.ntmps73
  go_wp2_with (first | ((with_reducible refine gate_ (.store 27 (.tmp 2) (.tmp 7)) rfl ?_); (refine store_row_F rfl rfl 27 (.tmp 2) (.tmp 7) rfl w.heap.size _ rfl rfl 27 _ (heap_alloc_new w _) (by kernel_rfl) rfl (by kernel_rfl) ?_); (intro w1 hb1 hat1); (have hbl := hat1.below ((Below.refl w.heap.size w).alloc (Nat.le_refl _) _) (Nat.le_refl _)); (have HW := Lib.hid (show HB w g w.heap.size L q o L.token 0 0 0 w1 from ⟨(hbl.block g hgl).trans H0.out.blk, hb1, hbl⟩)); (have hc5 : w1.cell? ⟨g, 5, none⟩ = some (.bool true) := (blk_cell HW.out.1 5).trans (by rw [← HKN.out]; rfl)); (clear hb1 hat1 hbl hc2)))
  have hSS : w1.drew.heap[g]? = some (.cells (row L q o) 131 (0, 0)) := HW.out.1
  have hb9 : HB w g w.heap.size L q o L.token 0 0 0 w1.drew := ⟨HW.out.1, HW.out.2.1, bl_drew HW.out.2.2⟩
  clear HW hc5
  refine start_ (n := 12) (S := fun w' => w'.heap[g]? = some (.cells (row L q o) 131 (0, 0))) (ds := []) #[false, false, false, false, false, false, false, false, false, false, false, false] (by kernel_rfl) rfl rfl (hSS) (fun hHeld => ?_)
  generalize w1.drew = w2 at hb9 hHeld ⊢
  have HW := Lib.hid hb9
  clear hb9
  refine pure_ (i := 0) (N := some 12) (v := ?_) (a' := ?_) #[true, false, false, false, false, false, false, false, false, false, false, false] rfl rfl (by kernel_rfl) (fun _ _ _ h => h) (Or.inl ⟨by rfl, ?_⟩) ?_ ?_
  rotate_left
  · intro w'
    go_simp
    with_reducible rfl
  rotate_left
  · simp only [Act.put, List.setIfInBounds_toArray, List.set_cons_zero, List.set_cons_succ]
    rfl
  refine pure_ (i := 1) (N := some 13) (v := ?_) (a' := ?_) #[true, true, false, false, false, false, false, false, false, false, false, false] rfl rfl (by kernel_rfl) (fun _ _ _ h => h) (Or.inl ⟨by rfl, ?_⟩) ?_ ?_
  rotate_left
  · intro w'
    go_simp
    with_reducible rfl
  rotate_left
  · simp only [Act.put, List.setIfInBounds_toArray, List.set_cons_zero, List.set_cons_succ]
    rfl
  refine pure_ (i := 2) (N := some 14) (v := ?_) (a' := ?_) #[true, true, true, false, false, false, false, false, false, false, false, false] rfl rfl (by kernel_rfl) (fun _ _ _ h => h) (Or.inl ⟨by rfl, ?_⟩) ?_ ?_
  rotate_left
  · intro w'
    go_simp
    with_reducible rfl
  rotate_left
  · simp only [Act.put, List.setIfInBounds_toArray, List.set_cons_zero, List.set_cons_succ]
    rfl
  refine take_ (i := 3) (N := some 15) (v := ?_) (a' := ?_) #[true, true, true, true, false, false, false, false, false, false, false, false] rfl rfl (by kernel_rfl) (fun _ _ _ h => h) (Or.inl ⟨by rfl, ?_⟩) hHeld ?_ ?_
  rotate_left
  · intro w' s0
    have hc3 : w'.cell? ⟨g, 3, none⟩ = some (.int .u32 L.boot) := (blk_cell s0 3).trans rfl
    clear s0
    go_simp
    with_reducible rfl
  rotate_left
  · simp only [Act.put, List.setIfInBounds_toArray, List.set_cons_zero, List.set_cons_succ]
    rfl
  refine pure_ (i := 4) (N := some 16) (v := ?_) (a' := ?_) #[true, true, true, true, true, false, false, false, false, false, false, false] rfl rfl (by kernel_rfl) (fun _ _ _ h => h) (Or.inl ⟨by rfl, ?_⟩) ?_ ?_
  rotate_left
  · intro w'
    go_simp
    with_reducible rfl
  rotate_left
  · simp only [Act.put, List.setIfInBounds_toArray, List.set_cons_zero, List.set_cons_succ]
    rfl
  refine pure_ (i := 5) (N := some 17) (v := ?_) (a' := ?_) #[true, true, true, true, true, true, false, false, false, false, false, false] rfl rfl (by kernel_rfl) (fun _ _ _ h => h) (Or.inl ⟨by rfl, ?_⟩) ?_ ?_
  rotate_left
  · intro w'
    go_simp
    with_reducible rfl
  rotate_left
  · simp only [Act.put, List.setIfInBounds_toArray, List.set_cons_zero, List.set_cons_succ]
    rfl
  refine pure_ (i := 6) (N := some 18) (v := ?_) (a' := ?_) #[true, true, true, true, true, true, true, false, false, false, false, false] rfl rfl (by kernel_rfl) (fun _ _ _ h => h) (Or.inl ⟨by rfl, ?_⟩) ?_ ?_
  rotate_left
  · intro w'
    go_simp
    with_reducible rfl
  rotate_left
  · simp only [Act.put, List.setIfInBounds_toArray, List.set_cons_zero, List.set_cons_succ]
    rfl
  refine take_ (i := 7) (N := some 19) (v := ?_) (a' := ?_) #[true, true, true, true, true, true, true, true, false, false, false, false] rfl rfl (by kernel_rfl) (fun _ _ _ h => h) (Or.inl ⟨by rfl, ?_⟩) hHeld ?_ ?_
  rotate_left
  · intro w' s0
    have hc4 : w'.cell? ⟨g, 4, none⟩ = some (.int .u32 L.yours) := (blk_cell s0 4).trans rfl
    clear s0
    go_simp
    with_reducible rfl
  rotate_left
  · simp only [Act.put, List.setIfInBounds_toArray, List.set_cons_zero, List.set_cons_succ]
    rfl
  refine pure_ (i := 8) (N := some 20) (v := ?_) (a' := ?_) #[true, true, true, true, true, true, true, true, true, false, false, false] rfl rfl (by kernel_rfl) (fun _ _ _ h => h) (Or.inl ⟨by rfl, ?_⟩) ?_ ?_
  rotate_left
  · intro w'
    go_simp
    with_reducible rfl
  rotate_left
  · simp only [Act.put, List.setIfInBounds_toArray, List.set_cons_zero, List.set_cons_succ]
    rfl
  refine one_ (i := 9) (N := none) #[true, true, true, true, true, true, true, true, true, true, false, false] rfl rfl (by kernel_rfl) (by decide) (fun K hK => ?_)
  have hz1 : w2.cell? ⟨w.heap.size, 2, none⟩ = some _ := (blk_cell HW.out.2.1 2).trans rfl
  have hz2 := blk_frozen HW.out.2.1 2
  refine skip_F (fun wz => HB w g w.heap.size L q o L.token L.boot 0 0 wz) (by rfl) rfl ⟨_, by first | (go_simp; done) | (go_simp; rfl), (Below.heap_setCell _ ⟨w.heap.size, 2, none⟩ _ g (by show g ≠ w.heap.size; omega)).trans HW.out.1, blk_put HW.out.2.1 2 _ rfl, HW.out.2.2.setCell (p := ⟨w.heap.size, 2, none⟩) (Nat.le_refl _) _⟩ (fun w3 hF => ?_)
  have HW9 := Lib.hid hF
  clear hF hz1 hz2 HW hHeld
  have HW := HW9
  clear HW9
  refine hK.out _ _ HW.out.1 (fun hHeld => ?_)
  clear hK K
  refine pure_ (i := 10) (N := some 21) (v := ?_) (a' := ?_) #[true, true, true, true, true, true, true, true, true, true, true, false] rfl rfl (by kernel_rfl) (fun _ _ _ h => h) (Or.inl ⟨by rfl, ?_⟩) ?_ ?_
  rotate_left
  · intro w'
    go_simp
    with_reducible rfl
  rotate_left
  · simp only [Act.put, List.setIfInBounds_toArray, List.set_cons_zero, List.set_cons_succ]
    rfl
  refine one_ (i := 11) (N := none) #[true, true, true, true, true, true, true, true, true, true, true, true] rfl rfl (by kernel_rfl) (by decide) (fun K hK => ?_)
  have hz1 : w3.cell? ⟨w.heap.size, 3, none⟩ = some _ := (blk_cell HW.out.2.1 3).trans rfl
  have hz2 := blk_frozen HW.out.2.1 3
  refine skip_F (fun wz => HB w g w.heap.size L q o L.token L.boot L.yours 0 wz) (by rfl) rfl ⟨_, by first | (go_simp; done) | (go_simp; rfl), (Below.heap_setCell _ ⟨w.heap.size, 3, none⟩ _ g (by show g ≠ w.heap.size; omega)).trans HW.out.1, blk_put HW.out.2.1 3 _ rfl, HW.out.2.2.setCell (p := ⟨w.heap.size, 3, none⟩) (Nat.le_refl _) _⟩ (fun w4 hF => ?_)
  have HW9 := Lib.hid hF
  clear hF hz1 hz2 HW hHeld
  have HW := HW9
  clear HW9
  refine hK.out _ _ HW.out.1 (fun hHeld => ?_)
  clear hK K
  refine done_ (by kernel_rfl) ?_
  clear hHeld
  have hc1 : w4.cell? ⟨g, 1, none⟩ = some (.int .i64 L.phase) := (blk_cell HW.out.1 1).trans rfl
  have hph := HPH.out
  go_wp2_with (first | ((with_reducible refine gate_ (.store 24 (.tmp 27) (.const (.int .u32 1))) rfl ?_); (refine store_F (fun wz => HB w g w.heap.size L q o L.token L.boot L.yours 1 wz) rfl rfl ⟨_, (by have hz1 : World.cell? _ ⟨w.heap.size, 4, none⟩ = some _ := (blk_cell HW.out.2.1 4).trans rfl; have hz2 := blk_frozen HW.out.2.1 4; first | (go_simp; done) | (go_simp; rfl)), (Below.heap_setCell _ ⟨w.heap.size, 4, none⟩ _ g (by show g ≠ w.heap.size; omega)).trans HW.out.1, blk_put HW.out.2.1 4 _ rfl, HW.out.2.2.setCell (p := ⟨w.heap.size, 4, none⟩) (Nat.le_refl _) _⟩ (fun w5 hF => ?_)); (have HW9 := Lib.hid hF); (clear hF HW hc1); (have HW := HW9); (clear HW9)) | ((with_reducible refine gate_dst (N := 29) rfl ?_); (refine value_F (fun v wz => v = .agg #[.int .i64 1, .int .u32 L.token, .int .u32 L.boot, .int .u32 L.yours, .int .u32 0, .int .u32 0, .int .u32 0, .int .u32 0, .complex .f64 0 0, .slice none 0 0] ∧ HB w g w.heap.size L q o L.token L.boot L.yours 0 wz) rfl ⟨.agg #[.int .i64 1, .int .u32 L.token, .int .u32 L.boot, .int .u32 L.yours, .int .u32 0, .int .u32 0, .int .u32 0, .int .u32 0, .complex .f64 0 0, .slice none 0 0], _, (by have hu27 := Try.underlying27; have hd0 : World.cell? _ ⟨w.heap.size, 0, none⟩ = some (.int .i64 1) := (blk_cell HW.out.2.1 0).trans rfl; have hd1 : World.cell? _ ⟨w.heap.size, 1, none⟩ = some (.int .u32 L.token) := (blk_cell HW.out.2.1 1).trans rfl; have hd2 : World.cell? _ ⟨w.heap.size, 2, none⟩ = some (.int .u32 L.boot) := (blk_cell HW.out.2.1 2).trans rfl; have hd3 : World.cell? _ ⟨w.heap.size, 3, none⟩ = some (.int .u32 L.yours) := (blk_cell HW.out.2.1 3).trans rfl; have hd4 : World.cell? _ ⟨w.heap.size, 4, none⟩ = some (.int .u32 0) := (blk_cell HW.out.2.1 4).trans rfl; have hd5 : World.cell? _ ⟨w.heap.size, 5, none⟩ = some (.int .u32 0) := (blk_cell HW.out.2.1 5).trans rfl; have hd6 : World.cell? _ ⟨w.heap.size, 6, none⟩ = some (.int .u32 0) := (blk_cell HW.out.2.1 6).trans rfl; have hd7 : World.cell? _ ⟨w.heap.size, 7, none⟩ = some (.int .u32 0) := (blk_cell HW.out.2.1 7).trans rfl; have hd8 : World.cell? _ ⟨w.heap.size, 8, none⟩ = some (.complex .f64 0 0) := (blk_cell HW.out.2.1 8).trans rfl; have hd9 : World.cell? _ ⟨w.heap.size, 9, none⟩ = some (.slice none 0 0) := (blk_cell HW.out.2.1 9).trans rfl; first | (go_simp; done) | (go_simp; rfl)), rfl, HW.out⟩ (fun v9 w8 hF => ?_)); (obtain ⟨rfl, hF2⟩ := hF); (have HW9 := Lib.hid hF2); (clear hF2 HW); (have HW := HW9); (clear HW9)) | (go_at_call 80; (refine (emit_of (⟨1, L.token, L.boot, L.yours, 0, 0, 0, 0, 0, 0, []⟩ : Pkt) (.slice none 0 0) (H0.out.below HW.out.2.2) OK.out (Nat.le_trans hB HW.out.2.2.size) (okp := fun _ => False) (pkt_M.2 ⟨_, rfl, Kd.R_nil _ _ _ _ _⟩) (fun _ hk => hk.elim)).mono ?_); (rintro e w9 ⟨rfl, hE⟩); (have HE := Lib.hid (Emits.from_ (fun k hk => (H0.out.old k (.inl hk)).1) hgl HW.out.2.2 hB hE)); (clear hE HW)))
  all_goals (go_end0; exact ⟨rfl, HE.out⟩)
set_option maxRecDepth 100000 in
set_option maxHeartbeats 1000000 in
theorem hello_ku {w : World} {B g : Nat} {okq oko : Nat → Prop} {L : Lk} {q o : Value} (h : At w B okq oko g L q o) (hok : L.Ok) (hB : B ≤ w.heap.size) (hkn : L.known = true) (hph : L.phase = 2) :
    Calls Try.prog 73 #[.pointer (some ⟨g, 0, none⟩)] w fun e w' => e = .returned (.tuple #[]) ∧ Emits w B okq oko g (emit_ L (⟨1, L.token, L.boot, L.yours, 1, 0, 0, 0, 0, 0, []⟩ : Pkt)) q w' := by
  have hc2 : w.cell? ⟨g, 2, none⟩ = some (.int .u32 L.token) := (blk_cell h.blk 2).trans rfl
  have hgl : g < w.heap.size := blk_lt h.blk
  have H0 := Lib.hid h
  have OK := Lib.hid hok
  have HKN := Lib.hid hkn
  have HPH := Lib.hid hph
  clear h hok hkn
  go_enter Try.func73, Try.ntmps73
  go_wp2_with (first | ((with_reducible refine gate_ (.store 27 (.tmp 2) (.tmp 7)) rfl ?_); (refine store_row_F rfl rfl 27 (.tmp 2) (.tmp 7) rfl w.heap.size _ rfl rfl 27 _ (heap_alloc_new w _) (by kernel_rfl) rfl (by kernel_rfl) ?_); (intro w1 hb1 hat1); (have hbl := hat1.below ((Below.refl w.heap.size w).alloc (Nat.le_refl _) _) (Nat.le_refl _)); (have HW := Lib.hid (show HB w g w.heap.size L q o L.token 0 0 0 w1 from ⟨(hbl.block g hgl).trans H0.out.blk, hb1, hbl⟩)); (have hc5 : w1.cell? ⟨g, 5, none⟩ = some (.bool true) := (blk_cell HW.out.1 5).trans (by rw [← HKN.out]; rfl)); (clear hb1 hat1 hbl hc2)))
  have hSS : w1.drew.heap[g]? = some (.cells (row L q o) 131 (0, 0)) := HW.out.1
  have hb9 : HB w g w.heap.size L q o L.token 0 0 0 w1.drew := ⟨HW.out.1, HW.out.2.1, bl_drew HW.out.2.2⟩
  clear HW hc5
  refine start_ (n := 12) (S := fun w' => w'.heap[g]? = some (.cells (row L q o) 131 (0, 0))) (ds := []) #[false, false, false, false, false, false, false, false, false, false, false, false] (by kernel_rfl) rfl rfl (hSS) (fun hHeld => ?_)
  generalize w1.drew = w2 at hb9 hHeld ⊢
  have HW := Lib.hid hb9
  clear hb9
  refine pure_ (i := 0) (N := some 12) (v := ?_) (a' := ?_) #[true, false, false, false, false, false, false, false, false, false, false, false] rfl rfl (by kernel_rfl) (fun _ _ _ h => h) (Or.inl ⟨by rfl, ?_⟩) ?_ ?_
  rotate_left
  · intro w'
    go_simp
    with_reducible rfl
  rotate_left
  · simp only [Act.put, List.setIfInBounds_toArray, List.set_cons_zero, List.set_cons_succ]
    rfl
  refine pure_ (i := 1) (N := some 13) (v := ?_) (a' := ?_) #[true, true, false, false, false, false, false, false, false, false, false, false] rfl rfl (by kernel_rfl) (fun _ _ _ h => h) (Or.inl ⟨by rfl, ?_⟩) ?_ ?_
  rotate_left
  · intro w'
    go_simp
    with_reducible rfl
  rotate_left
  · simp only [Act.put, List.setIfInBounds_toArray, List.set_cons_zero, List.set_cons_succ]
    rfl
  refine pure_ (i := 2) (N := some 14) (v := ?_) (a' := ?_) #[true, true, true, false, false, false, false, false, false, false, false, false] rfl rfl (by kernel_rfl) (fun _ _ _ h => h) (Or.inl ⟨by rfl, ?_⟩) ?_ ?_
  rotate_left
  · intro w'
    go_simp
    with_reducible rfl
  rotate_left
  · simp only [Act.put, List.setIfInBounds_toArray, List.set_cons_zero, List.set_cons_succ]
    rfl
  refine take_ (i := 3) (N := some 15) (v := ?_) (a' := ?_) #[true, true, true, true, false, false, false, false, false, false, false, false] rfl rfl (by kernel_rfl) (fun _ _ _ h => h) (Or.inl ⟨by rfl, ?_⟩) hHeld ?_ ?_
  rotate_left
  · intro w' s0
    have hc3 : w'.cell? ⟨g, 3, none⟩ = some (.int .u32 L.boot) := (blk_cell s0 3).trans rfl
    clear s0
    go_simp
    with_reducible rfl
  rotate_left
  · simp only [Act.put, List.setIfInBounds_toArray, List.set_cons_zero, List.set_cons_succ]
    rfl
  refine pure_ (i := 4) (N := some 16) (v := ?_) (a' := ?_) #[true, true, true, true, true, false, false, false, false, false, false, false] rfl rfl (by kernel_rfl) (fun _ _ _ h => h) (Or.inl ⟨by rfl, ?_⟩) ?_ ?_
  rotate_left
  · intro w'
    go_simp
    with_reducible rfl
  rotate_left
  · simp only [Act.put, List.setIfInBounds_toArray, List.set_cons_zero, List.set_cons_succ]
    rfl
  refine pure_ (i := 5) (N := some 17) (v := ?_) (a' := ?_) #[true, true, true, true, true, true, false, false, false, false, false, false] rfl rfl (by kernel_rfl) (fun _ _ _ h => h) (Or.inl ⟨by rfl, ?_⟩) ?_ ?_
  rotate_left
  · intro w'
    go_simp
    with_reducible rfl
  rotate_left
  · simp only [Act.put, List.setIfInBounds_toArray, List.set_cons_zero, List.set_cons_succ]
    rfl
  refine pure_ (i := 6) (N := some 18) (v := ?_) (a' := ?_) #[true, true, true, true, true, true, true, false, false, false, false, false] rfl rfl (by kernel_rfl) (fun _ _ _ h => h) (Or.inl ⟨by rfl, ?_⟩) ?_ ?_
  rotate_left
  · intro w'
    go_simp
    with_reducible rfl
  rotate_left
  · simp only [Act.put, List.setIfInBounds_toArray, List.set_cons_zero, List.set_cons_succ]
    rfl
  refine take_ (i := 7) (N := some 19) (v := ?_) (a' := ?_) #[true, true, true, true, true, true, true, true, false, false, false, false] rfl rfl (by kernel_rfl) (fun _ _ _ h => h) (Or.inl ⟨by rfl, ?_⟩) hHeld ?_ ?_
  rotate_left
  · intro w' s0
    have hc4 : w'.cell? ⟨g, 4, none⟩ = some (.int .u32 L.yours) := (blk_cell s0 4).trans rfl
    clear s0
    go_simp
    with_reducible rfl
  rotate_left
  · simp only [Act.put, List.setIfInBounds_toArray, List.set_cons_zero, List.set_cons_succ]
    rfl
  refine pure_ (i := 8) (N := some 20) (v := ?_) (a' := ?_) #[true, true, true, true, true, true, true, true, true, false, false, false] rfl rfl (by kernel_rfl) (fun _ _ _ h => h) (Or.inl ⟨by rfl, ?_⟩) ?_ ?_
  rotate_left
  · intro w'
    go_simp
    with_reducible rfl
  rotate_left
  · simp only [Act.put, List.setIfInBounds_toArray, List.set_cons_zero, List.set_cons_succ]
    rfl
  refine one_ (i := 9) (N := none) #[true, true, true, true, true, true, true, true, true, true, false, false] rfl rfl (by kernel_rfl) (by decide) (fun K hK => ?_)
  have hz1 : w2.cell? ⟨w.heap.size, 2, none⟩ = some _ := (blk_cell HW.out.2.1 2).trans rfl
  have hz2 := blk_frozen HW.out.2.1 2
  refine skip_F (fun wz => HB w g w.heap.size L q o L.token L.boot 0 0 wz) (by rfl) rfl ⟨_, by first | (go_simp; done) | (go_simp; rfl), (Below.heap_setCell _ ⟨w.heap.size, 2, none⟩ _ g (by show g ≠ w.heap.size; omega)).trans HW.out.1, blk_put HW.out.2.1 2 _ rfl, HW.out.2.2.setCell (p := ⟨w.heap.size, 2, none⟩) (Nat.le_refl _) _⟩ (fun w3 hF => ?_)
  have HW9 := Lib.hid hF
  clear hF hz1 hz2 HW hHeld
  have HW := HW9
  clear HW9
  refine hK.out _ _ HW.out.1 (fun hHeld => ?_)
  clear hK K
  refine pure_ (i := 10) (N := some 21) (v := ?_) (a' := ?_) #[true, true, true, true, true, true, true, true, true, true, true, false] rfl rfl (by kernel_rfl) (fun _ _ _ h => h) (Or.inl ⟨by rfl, ?_⟩) ?_ ?_
  rotate_left
  · intro w'
    go_simp
    with_reducible rfl
  rotate_left
  · simp only [Act.put, List.setIfInBounds_toArray, List.set_cons_zero, List.set_cons_succ]
    rfl
  refine one_ (i := 11) (N := none) #[true, true, true, true, true, true, true, true, true, true, true, true] rfl rfl (by kernel_rfl) (by decide) (fun K hK => ?_)
  have hz1 : w3.cell? ⟨w.heap.size, 3, none⟩ = some _ := (blk_cell HW.out.2.1 3).trans rfl
  have hz2 := blk_frozen HW.out.2.1 3
  refine skip_F (fun wz => HB w g w.heap.size L q o L.token L.boot L.yours 0 wz) (by rfl) rfl ⟨_, by first | (go_simp; done) | (go_simp; rfl), (Below.heap_setCell _ ⟨w.heap.size, 3, none⟩ _ g (by show g ≠ w.heap.size; omega)).trans HW.out.1, blk_put HW.out.2.1 3 _ rfl, HW.out.2.2.setCell (p := ⟨w.heap.size, 3, none⟩) (Nat.le_refl _) _⟩ (fun w4 hF => ?_)
  have HW9 := Lib.hid hF
  clear hF hz1 hz2 HW hHeld
  have HW := HW9
  clear HW9
  refine hK.out _ _ HW.out.1 (fun hHeld => ?_)
  clear hK K
  refine done_ (by kernel_rfl) ?_
  clear hHeld
  have hc1 : w4.cell? ⟨g, 1, none⟩ = some (.int .i64 L.phase) := (blk_cell HW.out.1 1).trans rfl
  have hph := HPH.out
  go_wp2_with (first | ((with_reducible refine gate_ (.store 24 (.tmp 27) (.const (.int .u32 1))) rfl ?_); (refine store_F (fun wz => HB w g w.heap.size L q o L.token L.boot L.yours 1 wz) rfl rfl ⟨_, (by have hz1 : World.cell? _ ⟨w.heap.size, 4, none⟩ = some _ := (blk_cell HW.out.2.1 4).trans rfl; have hz2 := blk_frozen HW.out.2.1 4; first | (go_simp; done) | (go_simp; rfl)), (Below.heap_setCell _ ⟨w.heap.size, 4, none⟩ _ g (by show g ≠ w.heap.size; omega)).trans HW.out.1, blk_put HW.out.2.1 4 _ rfl, HW.out.2.2.setCell (p := ⟨w.heap.size, 4, none⟩) (Nat.le_refl _) _⟩ (fun w5 hF => ?_)); (have HW9 := Lib.hid hF); (clear hF HW hc1); (have HW := HW9); (clear HW9)) | ((with_reducible refine gate_dst (N := 29) rfl ?_); (refine value_F (fun v wz => v = .agg #[.int .i64 1, .int .u32 L.token, .int .u32 L.boot, .int .u32 L.yours, .int .u32 1, .int .u32 0, .int .u32 0, .int .u32 0, .complex .f64 0 0, .slice none 0 0] ∧ HB w g w.heap.size L q o L.token L.boot L.yours 1 wz) rfl ⟨.agg #[.int .i64 1, .int .u32 L.token, .int .u32 L.boot, .int .u32 L.yours, .int .u32 1, .int .u32 0, .int .u32 0, .int .u32 0, .complex .f64 0 0, .slice none 0 0], _, (by have hu27 := Try.underlying27; have hd0 : World.cell? _ ⟨w.heap.size, 0, none⟩ = some (.int .i64 1) := (blk_cell HW.out.2.1 0).trans rfl; have hd1 : World.cell? _ ⟨w.heap.size, 1, none⟩ = some (.int .u32 L.token) := (blk_cell HW.out.2.1 1).trans rfl; have hd2 : World.cell? _ ⟨w.heap.size, 2, none⟩ = some (.int .u32 L.boot) := (blk_cell HW.out.2.1 2).trans rfl; have hd3 : World.cell? _ ⟨w.heap.size, 3, none⟩ = some (.int .u32 L.yours) := (blk_cell HW.out.2.1 3).trans rfl; have hd4 : World.cell? _ ⟨w.heap.size, 4, none⟩ = some (.int .u32 1) := (blk_cell HW.out.2.1 4).trans rfl; have hd5 : World.cell? _ ⟨w.heap.size, 5, none⟩ = some (.int .u32 0) := (blk_cell HW.out.2.1 5).trans rfl; have hd6 : World.cell? _ ⟨w.heap.size, 6, none⟩ = some (.int .u32 0) := (blk_cell HW.out.2.1 6).trans rfl; have hd7 : World.cell? _ ⟨w.heap.size, 7, none⟩ = some (.int .u32 0) := (blk_cell HW.out.2.1 7).trans rfl; have hd8 : World.cell? _ ⟨w.heap.size, 8, none⟩ = some (.complex .f64 0 0) := (blk_cell HW.out.2.1 8).trans rfl; have hd9 : World.cell? _ ⟨w.heap.size, 9, none⟩ = some (.slice none 0 0) := (blk_cell HW.out.2.1 9).trans rfl; first | (go_simp; done) | (go_simp; rfl)), rfl, HW.out⟩ (fun v9 w8 hF => ?_)); (obtain ⟨rfl, hF2⟩ := hF); (have HW9 := Lib.hid hF2); (clear hF2 HW); (have HW := HW9); (clear HW9)) | (go_at_call 80; (refine (emit_of (⟨1, L.token, L.boot, L.yours, 1, 0, 0, 0, 0, 0, []⟩ : Pkt) (.slice none 0 0) (H0.out.below HW.out.2.2) OK.out (Nat.le_trans hB HW.out.2.2.size) (okp := fun _ => False) (pkt_M.2 ⟨_, rfl, Kd.R_nil _ _ _ _ _⟩) (fun _ hk => hk.elim)).mono ?_); (rintro e w9 ⟨rfl, hE⟩); (have HE := Lib.hid (Emits.from_ (fun k hk => (H0.out.old k (.inl hk)).1) hgl HW.out.2.2 hB hE)); (clear hE HW)))
  all_goals (go_end0; exact ⟨rfl, HE.out⟩)
theorem hello_of {w : World} {B g : Nat} {okq oko : Nat → Prop} {L : Lk} {q o : Value} (h : At w B okq oko g L q o) (hok : L.Ok) (hB : B ≤ w.heap.size) :
    Calls Try.prog 73 #[.pointer (some ⟨g, 0, none⟩)] w fun e w' => e = .returned (.tuple #[]) ∧ Emits w B okq oko g (emit_ L (helloP L)) q w' := by
  by_cases hp : L.phase = 2 <;> cases hk : L.known
  · have := hello_nu h hok hB hk hp
    simpa [helloP, hk, hp] using this
  · have := hello_ku h hok hB hk hp
    simpa [helloP, hk, hp] using this
  · have := hello_no h hok hB hk hp
    simpa [helloP, hk, hp] using this
  · have := hello_ko h hok hB hk hp
    simpa [helloP, hk, hp] using this
end Go.Proofs.Ytnkkgofpifhoeaa.Lk
