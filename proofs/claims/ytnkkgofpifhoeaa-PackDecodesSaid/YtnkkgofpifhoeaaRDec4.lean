/- The packet that bytes are, by the document: its Decode at bytes that begin with 4; for all such bytes. -/
import Derived.Test.YtnkkgofpifhoeaaRef3
import Derived.Test.YtnkkgofpifhoeaaSeg
namespace Go.Proofs.Ytnkkgofpifhoeaa.Rk4
open Go.RowKit Go.Proofs.Ytnkkgofpifhoeaa.Base Go.Proofs.Ytnkkgofpifhoeaa.Pk Go.Proofs.YtnkkgofpifhoeaaW.PrintWords Go.Proofs.YtnkkgofpifhoeaaW.PrintLast Go.Proofs.Ytnkkgofpifhoeaa.Steps
set_option linter.unusedSimpArgs false
set_option linter.unusedVariables false
set_option maxRecDepth 100000 in
set_option maxHeartbeats 4000000 in
theorem rdecode_short (ad : Addr) (n c : Nat) (l : List Int) (w : World) (hC : Kd.C (Kd.int .u8) w (some ad) l.length l) (hn : l.length = n) (hcap : n ≤ c) (hby : bytesB l) (hk : rd l 0 = 4) (h0 : 0 < n) (hl : n < 41) :
    Calls Try.prog 17 #[.slice (some ad) n c] w
      fun e w' => e = .returned (.tuple #[.agg #[.int .i64 0, .int .u32 0, .int .u32 0, .int .u32 0, .int .u32 0, .int .u32 0, .int .u32 0, .int .u32 0, .complex .f64 0 0, .slice none 0 0], .int .i64 103]) ∧ Below w.heap.size w w' := by
  have hu27 := Try.underlying27
  have hbz := bz27
  have hal := al27
  have hne : ((n : Int) == 0) = false := beq_eq_false_iff_ne.2 (by omega)
  obtain ⟨_, e0, hx0⟩ := Kd.at_int hC 0 (by omega) (by omega)
  cases e0
  rw [hk] at hx0
  have ha0 : ad.add (0 : Int).toNat = ad := by simp [Addr.add]
  rw [ha0] at hx0
  have hx1 := fun o => cell_alloc_of hx0 o
  subst hn
  have HC := Lib.hid hC
  have HY := Lib.hid hby
  clear hC hk ha0
  clear hby
  go_enter Try.func17, Try.ntmps17
  go_wp2_with (first | ((with_reducible refine gate_ (.store 27 (.tmp 2) (.tmp 33)) rfl ?_); refine store_row_F rfl rfl 27 (.tmp 2) (.tmp 33) rfl w.heap.size _ rfl rfl 27 #[.int .i64 0, .int .u32 0, .int .u32 0, .int .u32 0, .int .u32 0, .int .u32 0, .int .u32 0, .int .u32 0, .complex .f64 0 0, .slice none 0 0] (hp3 _ _ _ _) (by kernel_rfl) rfl (by kernel_rfl) ?_; intro w5 hb5 hat5; have HB5 := Lib.hid hb5; have HAT5 := Lib.hid hat5; clear hb5 hat5))
  refine bodyPost_ret (v := .tuple #[.agg #[.int .i64 0, .int .u32 0, .int .u32 0, .int .u32 0, .int .u32 0, .int .u32 0, .int .u32 0, .int .u32 0, .complex .f64 0 0, .slice none 0 0], .int .i64 103]) ?_ rfl ⟨rfl, HAT5.out.below ?_ (Nat.le_refl _)⟩
  · have hl5 := run_loadVar_row (P := Try.prog) w5 w.heap.size 27 27 _ (0, 0) _ HB5.out Try.underlying27 rfl (by kernel_rfl)
    exact results_cell2 Try.results17 _ _ rfl rfl hl5
  · repeat (first | refine Below.alloc ?_ (by simp <;> omega) _ | exact Below.refl _ _)
set_option maxRecDepth 100000 in
set_option maxHeartbeats 4000000 in
theorem rdecode_long (ad : Addr) (n c : Nat) (l : List Int) (w : World) (hC : Kd.C (Kd.int .u8) w (some ad) l.length l) (hn : l.length = n) (hcap : n ≤ c) (hby : bytesB l) (hk : rd l 0 = 4) (h0 : 0 < n) (hl : 41 < n) :
    Calls Try.prog 17 #[.slice (some ad) n c] w
      fun e w' => e = .returned (.tuple #[.agg #[.int .i64 0, .int .u32 0, .int .u32 0, .int .u32 0, .int .u32 0, .int .u32 0, .int .u32 0, .int .u32 0, .complex .f64 0 0, .slice none 0 0], .int .i64 102]) ∧ Below w.heap.size w w' := by
  have hu27 := Try.underlying27
  have hbz := bz27
  have hal := al27
  have hne : ((n : Int) == 0) = false := beq_eq_false_iff_ne.2 (by omega)
  obtain ⟨_, e0, hx0⟩ := Kd.at_int hC 0 (by omega) (by omega)
  cases e0
  rw [hk] at hx0
  have ha0 : ad.add (0 : Int).toNat = ad := by simp [Addr.add]
  rw [ha0] at hx0
  have hx1 := fun o => cell_alloc_of hx0 o
  subst hn
  have HC := Lib.hid hC
  have HY := Lib.hid hby
  clear hC hk ha0
  clear hby
  go_enter Try.func17, Try.ntmps17
  go_wp2_with (first | ((with_reducible refine gate_ (.store 27 (.tmp 2) (.tmp 41)) rfl ?_); refine store_row_F rfl rfl 27 (.tmp 2) (.tmp 41) rfl w.heap.size _ rfl rfl 27 #[.int .i64 0, .int .u32 0, .int .u32 0, .int .u32 0, .int .u32 0, .int .u32 0, .int .u32 0, .int .u32 0, .complex .f64 0 0, .slice none 0 0] (hp3 _ _ _ _) (by kernel_rfl) rfl (by kernel_rfl) ?_; intro w5 hb5 hat5; have HB5 := Lib.hid hb5; have HAT5 := Lib.hid hat5; clear hb5 hat5))
  refine bodyPost_ret (v := .tuple #[.agg #[.int .i64 0, .int .u32 0, .int .u32 0, .int .u32 0, .int .u32 0, .int .u32 0, .int .u32 0, .int .u32 0, .complex .f64 0 0, .slice none 0 0], .int .i64 102]) ?_ rfl ⟨rfl, HAT5.out.below ?_ (Nat.le_refl _)⟩
  · have hl5 := run_loadVar_row (P := Try.prog) w5 w.heap.size 27 27 _ (0, 0) _ HB5.out Try.underlying27 rfl (by kernel_rfl)
    exact results_cell2 Try.results17 _ _ rfl rfl hl5
  · repeat (first | refine Below.alloc ?_ (by simp <;> omega) _ | exact Below.refl _ _)
set_option maxRecDepth 100000 in
set_option maxHeartbeats 4000000 in
theorem rdecode_proper (ad : Addr) (n c : Nat) (l : List Int) (w : World) (hC : Kd.C (Kd.int .u8) w (some ad) l.length l) (hn : l.length = n) (hcap : n ≤ c) (hby : bytesB l) (hk : rd l 0 = 4) (h0 : 0 < n) (hl : 41 ≤ n) (hm : n ≤ 41) :
    Calls Try.prog 17 #[.slice (some ad) n c] w
      (fun e w' => e = .returned (.tuple #[.agg (decAgg (checkP 4 ((IntKind.u32.wrap (bigOf 0 (seg l 1 5)))) ((IntKind.u32.wrap (bigOf 0 (seg l 5 9)))) ((IntKind.u32.wrap (bigOf 0 (seg l 9 13)))) (0) ((IntKind.u32.wrap (bigOf 0 (seg (cutd 4 l) 9 13)))) ((IntKind.u32.wrap (bigOf 0 (seg (cutd 4 l) 13 17)))) ((IntKind.u32.wrap (bigOf 0 (seg (cutd 4 l) 17 21)))) (bigOf 0 (seg (cutd 4 l) 21 29)).toNat (bigOf 0 (seg (cutd 4 l) 29 37)).toNat 0) #[.int .i64 4, .int .u32 (IntKind.u32.wrap (bigOf 0 (seg l 1 5))), .int .u32 (IntKind.u32.wrap (bigOf 0 (seg l 5 9))), .int .u32 (IntKind.u32.wrap (bigOf 0 (seg l 9 13))), .int .u32 0, .int .u32 (IntKind.u32.wrap (bigOf 0 (seg (cutd 4 l) 9 13))), .int .u32 (IntKind.u32.wrap (bigOf 0 (seg (cutd 4 l) 13 17))), .int .u32 (IntKind.u32.wrap (bigOf 0 (seg (cutd 4 l) 17 21))), .complex .f64 (bigOf 0 (seg (cutd 4 l) 21 29)).toNat (bigOf 0 (seg (cutd 4 l) 29 37)).toNat, .slice none 0 0]), .int .i64 (checkP 4 ((IntKind.u32.wrap (bigOf 0 (seg l 1 5)))) ((IntKind.u32.wrap (bigOf 0 (seg l 5 9)))) ((IntKind.u32.wrap (bigOf 0 (seg l 9 13)))) (0) ((IntKind.u32.wrap (bigOf 0 (seg (cutd 4 l) 9 13)))) ((IntKind.u32.wrap (bigOf 0 (seg (cutd 4 l) 13 17)))) ((IntKind.u32.wrap (bigOf 0 (seg (cutd 4 l) 17 21)))) (bigOf 0 (seg (cutd 4 l) 21 29)).toNat (bigOf 0 (seg (cutd 4 l) 29 37)).toNat 0)]) ∧ Below w.heap.size w w') := by
  have hu27 := Try.underlying27
  have hbz := bz27
  have hal := al27
  have hne : ((n : Int) == 0) = false := beq_eq_false_iff_ne.2 (by omega)
  obtain ⟨_, e0, hx0⟩ := Kd.at_int hC 0 (by omega) (by omega)
  cases e0
  rw [hk] at hx0
  have ha0 : ad.add (0 : Int).toNat = ad := by simp [Addr.add]
  rw [ha0] at hx0
  have hx1 := fun o => cell_alloc_of hx0 o
  subst hn
  obtain ⟨A1, hs1, hS1⟩ := seg_fact (some ad) c l 1 5 1 5 rfl rfl (by omega) (by omega) (by omega) hcap
  have HS1 := Lib.hid hS1
  clear hS1
  have HB1 := Lib.hid (hby.seg 1 5)
  have HM1 := Lib.hid (seg_le l 1 5)
  obtain ⟨A5, hs5, hS5⟩ := seg_fact (some ad) c l 5 9 5 9 rfl rfl (by omega) (by omega) (by omega) hcap
  have HS5 := Lib.hid hS5
  clear hS5
  have HB5 := Lib.hid (hby.seg 5 9)
  have HM5 := Lib.hid (seg_le l 5 9)
  obtain ⟨A9, hs9, hS9⟩ := seg_fact (some ad) c l 9 13 9 13 rfl rfl (by omega) (by omega) (by omega) hcap
  have HS9 := Lib.hid hS9
  clear hS9
  have HB9 := Lib.hid (hby.seg 9 13)
  have HM9 := Lib.hid (seg_le l 9 13)
  obtain ⟨A4, hcut, hA4, hcap4⟩ := cut_fact (some ad) c l 4 4 rfl (by omega) (by omega) hcap
  have HA4 := Lib.hid hA4
  clear hA4
  have hby4 : bytesB (cutd 4 l) := hby.cut 4
  have HL4 := Lib.hid (cutd_len 4 l)
  have hl4 : (cutd 4 l).length = l.length - 4 := cutd_len 4 l
  obtain ⟨B9, ht9, hT9⟩ := seg_fact A4 (c - 4) (cutd 4 l) 9 13 9 13 rfl rfl (by omega) (by omega) (by omega) hcap4
  have HT9 := Lib.hid hT9
  clear hT9
  have HD9 := Lib.hid (hby4.seg 9 13)
  have HN9 := Lib.hid (seg_le (cutd 4 l) 9 13)
  obtain ⟨B13, ht13, hT13⟩ := seg_fact A4 (c - 4) (cutd 4 l) 13 17 13 17 rfl rfl (by omega) (by omega) (by omega) hcap4
  have HT13 := Lib.hid hT13
  clear hT13
  have HD13 := Lib.hid (hby4.seg 13 17)
  have HN13 := Lib.hid (seg_le (cutd 4 l) 13 17)
  obtain ⟨B17, ht17, hT17⟩ := seg_fact A4 (c - 4) (cutd 4 l) 17 21 17 21 rfl rfl (by omega) (by omega) (by omega) hcap4
  have HT17 := Lib.hid hT17
  clear hT17
  have HD17 := Lib.hid (hby4.seg 17 21)
  have HN17 := Lib.hid (seg_le (cutd 4 l) 17 21)
  obtain ⟨B21, ht21, hT21⟩ := seg_fact A4 (c - 4) (cutd 4 l) 21 29 21 29 rfl rfl (by omega) (by omega) (by omega) hcap4
  have HT21 := Lib.hid hT21
  clear hT21
  have HD21 := Lib.hid (hby4.seg 21 29)
  have HN21 := Lib.hid (seg_le (cutd 4 l) 21 29)
  obtain ⟨B29, ht29, hT29⟩ := seg_fact A4 (c - 4) (cutd 4 l) 29 37 29 37 rfl rfl (by omega) (by omega) (by omega) hcap4
  have HT29 := Lib.hid hT29
  clear hT29
  have HD29 := Lib.hid (hby4.seg 29 37)
  have HN29 := Lib.hid (seg_le (cutd 4 l) 29 37)
  clear hl4
  have HC := Lib.hid hC
  have HY := Lib.hid hby
  clear hC hk ha0
  clear hby hby4
  go_enter Try.func17, Try.ntmps17
  go_wp2_with fail
  have HW := Lib.hid (show Below w.heap.size w (((w.alloc (.cells #[.int .i64 0, .int .u32 0, .int .u32 0, .int .u32 0, .int .u32 0, .int .u32 0, .int .u32 0, .int .u32 0, .complex .f64 0 0, .slice none 0 0] 27)).alloc (.cells #[.int .i64 0, .int .i64 14, .int .i64 22, .int .i64 17, .int .i64 41] 3)).alloc (.cells #[.int .i64 0, .int .i64 14, .int .i64 1021, .int .i64 17, .int .i64 41] 3)).drew from bl_drew ((((Below.refl w.heap.size w).alloc (Nat.le_refl _) _).alloc (by simp) _).alloc (by simp <;> omega) _))
  have HP := Lib.hid (show (((w.alloc (.cells #[.int .i64 0, .int .u32 0, .int .u32 0, .int .u32 0, .int .u32 0, .int .u32 0, .int .u32 0, .int .u32 0, .complex .f64 0 0, .slice none 0 0] 27)).alloc (.cells #[.int .i64 0, .int .i64 14, .int .i64 22, .int .i64 17, .int .i64 41] 3)).alloc (.cells #[.int .i64 0, .int .i64 14, .int .i64 1021, .int .i64 17, .int .i64 41] 3)).drew.heap[w.heap.size]? = some (.cells #[.int .i64 0, .int .u32 0, .int .u32 0, .int .u32 0, .int .u32 0, .int .u32 0, .int .u32 0, .int .u32 0, .complex .f64 0 0, .slice none 0 0] 27 (0, 0)) from hp3d _ _ _ _)
  refine start_ (n := 16) (S := fun w' => True) (ds := []) #[false, false, false, false, false, false, false, false, false, false, false, false, false, false, false, false] (by kernel_rfl) rfl rfl (trivial) (fun hHeld => ?_)
  generalize (((w.alloc (.cells #[.int .i64 0, .int .u32 0, .int .u32 0, .int .u32 0, .int .u32 0, .int .u32 0, .int .u32 0, .int .u32 0, .complex .f64 0 0, .slice none 0 0] 27)).alloc (.cells #[.int .i64 0, .int .i64 14, .int .i64 22, .int .i64 17, .int .i64 41] 3)).alloc (.cells #[.int .i64 0, .int .i64 14, .int .i64 1021, .int .i64 17, .int .i64 41] 3)).drew = w5 at HW HP hHeld ⊢
  refine pure_ (i := 0) (N := some 42) (v := ?_) (a' := ?_) #[true, false, false, false, false, false, false, false, false, false, false, false, false, false, false, false] rfl rfl (by kernel_rfl) (fun _ _ _ h => h) (Or.inl ⟨by rfl, ?_⟩) ?_ ?_
  rotate_left
  · intro w'
    go_simp
    with_reducible rfl
  rotate_left
  · simp only [Act.put, List.setIfInBounds_toArray, List.set_cons_zero, List.set_cons_succ]
    rfl
  refine pure_ (i := 1) (N := some 43) (v := ?_) (a' := ?_) #[true, true, false, false, false, false, false, false, false, false, false, false, false, false, false, false] rfl rfl (by kernel_rfl) (fun _ _ _ h => h) (Or.inl ⟨by rfl, ?_⟩) ?_ ?_
  rotate_left
  · intro w'
    go_simp
    with_reducible rfl
  rotate_left
  · simp only [Act.put, List.setIfInBounds_toArray, List.set_cons_zero, List.set_cons_succ]
    rfl
  refine pure_ (i := 2) (N := some 44) (v := ?_) (a' := ?_) #[true, true, true, false, false, false, false, false, false, false, false, false, false, false, false, false] rfl rfl (by kernel_rfl) (fun _ _ _ h => h) (Or.inl ⟨by rfl, ?_⟩) ?_ ?_
  rotate_left
  · intro w'
    go_simp
    with_reducible rfl
  rotate_left
  · simp only [Act.put, List.setIfInBounds_toArray, List.set_cons_zero, List.set_cons_succ]
    rfl
  refine pure_ (i := 5) (N := some 47) (v := ?_) (a' := ?_) #[true, true, true, false, false, true, false, false, false, false, false, false, false, false, false, false] rfl rfl (by kernel_rfl) (fun _ _ _ h => h) (Or.inl ⟨by rfl, ?_⟩) ?_ ?_
  rotate_left
  · intro w'
    go_simp
    with_reducible rfl
  rotate_left
  · simp only [Act.put, List.setIfInBounds_toArray, List.set_cons_zero, List.set_cons_succ]
    rfl
  refine pure_ (i := 6) (N := some 48) (v := ?_) (a' := ?_) #[true, true, true, false, false, true, true, false, false, false, false, false, false, false, false, false] rfl rfl (by kernel_rfl) (fun _ _ _ h => h) (Or.inl ⟨by rfl, ?_⟩) ?_ ?_
  rotate_left
  · intro w'
    go_simp
    with_reducible rfl
  rotate_left
  · simp only [Act.put, List.setIfInBounds_toArray, List.set_cons_zero, List.set_cons_succ]
    rfl
  refine pure_ (i := 9) (N := some 51) (v := ?_) (a' := ?_) #[true, true, true, false, false, true, true, false, false, true, false, false, false, false, false, false] rfl rfl (by kernel_rfl) (fun _ _ _ h => h) (Or.inl ⟨by rfl, ?_⟩) ?_ ?_
  rotate_left
  · intro w'
    go_simp
    with_reducible rfl
  rotate_left
  · simp only [Act.put, List.setIfInBounds_toArray, List.set_cons_zero, List.set_cons_succ]
    rfl
  refine pure_ (i := 10) (N := some 52) (v := ?_) (a' := ?_) #[true, true, true, false, false, true, true, false, false, true, true, false, false, false, false, false] rfl rfl (by kernel_rfl) (fun _ _ _ h => h) (Or.inl ⟨by rfl, ?_⟩) ?_ ?_
  rotate_left
  · intro w'
    go_simp
    with_reducible rfl
  rotate_left
  · simp only [Act.put, List.setIfInBounds_toArray, List.set_cons_zero, List.set_cons_succ]
    rfl
  refine join_ (σ := Nat) 1 #[true, true, true, true, true, true, true, true, true, true, true, true, true, true, true, false] (fun s => [(45, .int .u64 (bigOf 0 (seg l 1 5))), (46, .int .u32 (IntKind.u32.wrap (bigOf 0 (seg l 1 5)))), (49, .int .u64 (bigOf 0 (seg l 5 9))), (50, .int .u32 (IntKind.u32.wrap (bigOf 0 (seg l 5 9)))), (53, .int .u64 (bigOf 0 (seg l 9 13))), (54, .int .u32 (IntKind.u32.wrap (bigOf 0 (seg l 9 13)))), (55, .agg #[.int .i64 4, .int .u32 (IntKind.u32.wrap (bigOf 0 (seg l 1 5))), .int .u32 (IntKind.u32.wrap (bigOf 0 (seg l 5 9))), .int .u32 (IntKind.u32.wrap (bigOf 0 (seg l 9 13))), .int .u32 0, .int .u32 0, .int .u32 0, .int .u32 0, .complex .f64 0 0, .slice none 0 0]), (7, .pointer (some ⟨s, 0, none⟩))]) (fun s w' => Below w.heap.size w w' ∧ w'.heap[w.heap.size]? = some (.cells #[.int .i64 0, .int .u32 0, .int .u32 0, .int .u32 0, .int .u32 0, .int .u32 0, .int .u32 0, .int .u32 0, .complex .f64 0 0, .slice none 0 0] 27 (0, 0)) ∧ w'.heap[s]? = some (.cells #[.int .i64 0, .int .u32 0, .int .u32 0, .int .u32 0, .int .u32 0, .int .u32 0, .int .u32 0, .int .u32 0, .complex .f64 0 0, .slice none 0 0] 27 (0, 0)) ∧ w.heap.size < s) ?_ ?_
  rotate_left
  · intro hcont
    refine two_ (i := 3) (j := 14) (Ni := some 45) (Nj := some 7) #[true, true, true, true, false, true, true, false, false, true, true, false, false, false, false, false] #[true, true, true, false, false, true, true, false, false, true, true, false, false, false, true, false] rfl rfl rfl rfl (by kernel_rfl) (by decide) (by decide) (fun K hK => ?_) (fun K hK => ?_)
    · skip
      refine goes_ Try.func62 (by kernel_rfl) rfl #[.slice A1 (seg l 1 5).length (c - 1)] (by rfl) rfl rfl (by (try simp only [List.map_toArray, List.map_cons, List.map_nil]); first | done | rfl) ?_
      refine (of_any _ _ (seg l 1 5) _ (HS1.out _ (Kd.C_below HC.out HW.out)) HB1.out (by have := HM1.out; omega)).mono ?_
      rintro e w' ⟨rfl, rfl⟩
      refine ⟨_, rfl, ?_⟩
      refine hK.out _ _ trivial (fun hHeld => ?_)
      clear hK K
      refine norm_ (a' := ?_) ?_ ?_
      rotate_left
      · show Act.put _ (some 45) _ = _
        simp only [Act.put, List.setIfInBounds_toArray, List.set_cons_zero, List.set_cons_succ]
        rfl
      refine pure_ (i := 4) (N := some 46) (v := ?_) (a' := ?_) #[true, true, true, true, true, true, true, false, false, true, true, false, false, false, false, false] rfl rfl (by kernel_rfl) (fun _ _ _ h => h) (Or.inl ⟨by rfl, ?_⟩) ?_ ?_
      rotate_left
      · intro w'
        go_simp
        with_reducible rfl
      rotate_left
      · simp only [Act.put, List.setIfInBounds_toArray, List.set_cons_zero, List.set_cons_succ]
        rfl
      refine two_ (i := 7) (j := 14) (Ni := some 49) (Nj := some 7) #[true, true, true, true, true, true, true, true, false, true, true, false, false, false, false, false] #[true, true, true, true, true, true, true, false, false, true, true, false, false, false, true, false] rfl rfl rfl rfl (by kernel_rfl) (by decide) (by decide) (fun K hK => ?_) (fun K hK => ?_)
      · skip
        refine goes_ Try.func62 (by kernel_rfl) rfl #[.slice A5 (seg l 5 9).length (c - 5)] (by rfl) rfl rfl (by (try simp only [List.map_toArray, List.map_cons, List.map_nil]); first | done | rfl) ?_
        refine (of_any _ _ (seg l 5 9) _ (HS5.out _ (Kd.C_below HC.out HW.out)) HB5.out (by have := HM5.out; omega)).mono ?_
        rintro e w' ⟨rfl, rfl⟩
        refine ⟨_, rfl, ?_⟩
        refine hK.out _ _ trivial (fun hHeld => ?_)
        clear hK K
        refine norm_ (a' := ?_) ?_ ?_
        rotate_left
        · show Act.put _ (some 49) _ = _
          simp only [Act.put, List.setIfInBounds_toArray, List.set_cons_zero, List.set_cons_succ]
          rfl
        refine pure_ (i := 8) (N := some 50) (v := ?_) (a' := ?_) #[true, true, true, true, true, true, true, true, true, true, true, false, false, false, false, false] rfl rfl (by kernel_rfl) (fun _ _ _ h => h) (Or.inl ⟨by rfl, ?_⟩) ?_ ?_
        rotate_left
        · intro w'
          go_simp
          with_reducible rfl
        rotate_left
        · simp only [Act.put, List.setIfInBounds_toArray, List.set_cons_zero, List.set_cons_succ]
          rfl
        refine two_ (i := 11) (j := 14) (Ni := some 53) (Nj := some 7) #[true, true, true, true, true, true, true, true, true, true, true, true, false, false, false, false] #[true, true, true, true, true, true, true, true, true, true, true, false, false, false, true, false] rfl rfl rfl rfl (by kernel_rfl) (by decide) (by decide) (fun K hK => ?_) (fun K hK => ?_)
        · skip
          refine goes_ Try.func62 (by kernel_rfl) rfl #[.slice A9 (seg l 9 13).length (c - 9)] (by rfl) rfl rfl (by (try simp only [List.map_toArray, List.map_cons, List.map_nil]); first | done | rfl) ?_
          refine (of_any _ _ (seg l 9 13) _ (HS9.out _ (Kd.C_below HC.out HW.out)) HB9.out (by have := HM9.out; omega)).mono ?_
          rintro e w' ⟨rfl, rfl⟩
          refine ⟨_, rfl, ?_⟩
          refine hK.out _ _ trivial (fun hHeld => ?_)
          clear hK K
          refine norm_ (a' := ?_) ?_ ?_
          rotate_left
          · show Act.put _ (some 53) _ = _
            simp only [Act.put, List.setIfInBounds_toArray, List.set_cons_zero, List.set_cons_succ]
            rfl
          refine pure_ (i := 12) (N := some 54) (v := ?_) (a' := ?_) #[true, true, true, true, true, true, true, true, true, true, true, true, true, false, false, false] rfl rfl (by kernel_rfl) (fun _ _ _ h => h) (Or.inl ⟨by rfl, ?_⟩) ?_ ?_
          rotate_left
          · intro w'
            go_simp
            with_reducible rfl
          rotate_left
          · simp only [Act.put, List.setIfInBounds_toArray, List.set_cons_zero, List.set_cons_succ]
            rfl
          refine pure_ (i := 13) (N := some 55) (v := ?_) (a' := ?_) #[true, true, true, true, true, true, true, true, true, true, true, true, true, true, false, false] rfl rfl (by kernel_rfl) (fun _ _ _ h => h) (Or.inl ⟨by rfl, ?_⟩) ?_ ?_
          rotate_left
          · intro w'
            go_simp
            with_reducible rfl
          rotate_left
          · simp only [Act.put, List.setIfInBounds_toArray, List.set_cons_zero, List.set_cons_succ]
            rfl
          refine one_ (i := 14) (N := some 7) #[true, true, true, true, true, true, true, true, true, true, true, true, true, true, true, false] rfl rfl (by kernel_rfl) (by decide) (fun K hK => ?_)
          refine box_step (by rfl) (N := 7) rfl (cs := #[.int .i64 0, .int .u32 0, .int .u32 0, .int .u32 0, .int .u32 0, .int .u32 0, .int .u32 0, .int .u32 0, .complex .f64 0 0, .slice none 0 0]) (t := 27) (by first | (go_simp; done) | (go_simp; rfl)) ?_
          intro g6 hg6 w6 hbx hb3
          have hgx : w.heap.size < g6 := by have := blk_lt HP.out; omega
          have HW9 := HW.out.trans (hb3.mono HW.out.size)
          have HP9 := (hb3.block w.heap.size (blk_lt HP.out)).trans HP.out
          clear HW HP
          have HW := Lib.hid HW9
          have HP := Lib.hid HP9
          have HX := Lib.hid hbx
          clear HW9 HP9 hbx hb3 hg6
          refine hK.out _ _ trivial (fun hHeld => ?_)
          clear hK K
          refine norm_ (a' := ?_) ?_ ?_
          rotate_left
          · show Act.put _ (some 7) _ = _
            simp only [Act.put, List.setIfInBounds_toArray, List.set_cons_zero, List.set_cons_succ]
            rfl
          have h9 := hcont g6 _ ⟨HW.out, HP.out, HX.out, hgx⟩
          simp only [putAll, Act.put, List.setIfInBounds_toArray, List.set_cons_zero, List.set_cons_succ] at h9
          exact h9
        · skip
          refine box_step (by rfl) (N := 7) rfl (cs := #[.int .i64 0, .int .u32 0, .int .u32 0, .int .u32 0, .int .u32 0, .int .u32 0, .int .u32 0, .int .u32 0, .complex .f64 0 0, .slice none 0 0]) (t := 27) (by first | (go_simp; done) | (go_simp; rfl)) ?_
          intro g6 hg6 w6 hbx hb3
          have hgx : w.heap.size < g6 := by have := blk_lt HP.out; omega
          have HW9 := HW.out.trans (hb3.mono HW.out.size)
          have HP9 := (hb3.block w.heap.size (blk_lt HP.out)).trans HP.out
          clear HW HP
          have HW := Lib.hid HW9
          have HP := Lib.hid HP9
          have HX := Lib.hid hbx
          clear HW9 HP9 hbx hb3 hg6
          refine hK.out _ _ trivial (fun hHeld => ?_)
          clear hK K
          refine norm_ (a' := ?_) ?_ ?_
          rotate_left
          · show Act.put _ (some 7) _ = _
            simp only [Act.put, List.setIfInBounds_toArray, List.set_cons_zero, List.set_cons_succ]
            rfl
          refine one_ (i := 11) (N := some 53) #[true, true, true, true, true, true, true, true, true, true, true, true, false, false, true, false] rfl rfl (by kernel_rfl) (by decide) (fun K hK => ?_)
          refine goes_ Try.func62 (by kernel_rfl) rfl #[.slice A9 (seg l 9 13).length (c - 9)] (by rfl) rfl rfl (by (try simp only [List.map_toArray, List.map_cons, List.map_nil]); first | done | rfl) ?_
          refine (of_any _ _ (seg l 9 13) _ (HS9.out _ (Kd.C_below HC.out HW.out)) HB9.out (by have := HM9.out; omega)).mono ?_
          rintro e w' ⟨rfl, rfl⟩
          refine ⟨_, rfl, ?_⟩
          refine hK.out _ _ trivial (fun hHeld => ?_)
          clear hK K
          refine norm_ (a' := ?_) ?_ ?_
          rotate_left
          · show Act.put _ (some 53) _ = _
            simp only [Act.put, List.setIfInBounds_toArray, List.set_cons_zero, List.set_cons_succ]
            rfl
          refine pure_ (i := 12) (N := some 54) (v := ?_) (a' := ?_) #[true, true, true, true, true, true, true, true, true, true, true, true, true, false, true, false] rfl rfl (by kernel_rfl) (fun _ _ _ h => h) (Or.inl ⟨by rfl, ?_⟩) ?_ ?_
          rotate_left
          · intro w'
            go_simp
            with_reducible rfl
          rotate_left
          · simp only [Act.put, List.setIfInBounds_toArray, List.set_cons_zero, List.set_cons_succ]
            rfl
          refine pure_ (i := 13) (N := some 55) (v := ?_) (a' := ?_) #[true, true, true, true, true, true, true, true, true, true, true, true, true, true, true, false] rfl rfl (by kernel_rfl) (fun _ _ _ h => h) (Or.inl ⟨by rfl, ?_⟩) ?_ ?_
          rotate_left
          · intro w'
            go_simp
            with_reducible rfl
          rotate_left
          · simp only [Act.put, List.setIfInBounds_toArray, List.set_cons_zero, List.set_cons_succ]
            rfl
          have h9 := hcont g6 _ ⟨HW.out, HP.out, HX.out, hgx⟩
          simp only [putAll, Act.put, List.setIfInBounds_toArray, List.set_cons_zero, List.set_cons_succ] at h9
          exact h9
      · skip
        refine box_step (by rfl) (N := 7) rfl (cs := #[.int .i64 0, .int .u32 0, .int .u32 0, .int .u32 0, .int .u32 0, .int .u32 0, .int .u32 0, .int .u32 0, .complex .f64 0 0, .slice none 0 0]) (t := 27) (by first | (go_simp; done) | (go_simp; rfl)) ?_
        intro g6 hg6 w6 hbx hb3
        have hgx : w.heap.size < g6 := by have := blk_lt HP.out; omega
        have HW9 := HW.out.trans (hb3.mono HW.out.size)
        have HP9 := (hb3.block w.heap.size (blk_lt HP.out)).trans HP.out
        clear HW HP
        have HW := Lib.hid HW9
        have HP := Lib.hid HP9
        have HX := Lib.hid hbx
        clear HW9 HP9 hbx hb3 hg6
        refine hK.out _ _ trivial (fun hHeld => ?_)
        clear hK K
        refine norm_ (a' := ?_) ?_ ?_
        rotate_left
        · show Act.put _ (some 7) _ = _
          simp only [Act.put, List.setIfInBounds_toArray, List.set_cons_zero, List.set_cons_succ]
          rfl
        refine one_ (i := 7) (N := some 49) #[true, true, true, true, true, true, true, true, false, true, true, false, false, false, true, false] rfl rfl (by kernel_rfl) (by decide) (fun K hK => ?_)
        refine goes_ Try.func62 (by kernel_rfl) rfl #[.slice A5 (seg l 5 9).length (c - 5)] (by rfl) rfl rfl (by (try simp only [List.map_toArray, List.map_cons, List.map_nil]); first | done | rfl) ?_
        refine (of_any _ _ (seg l 5 9) _ (HS5.out _ (Kd.C_below HC.out HW.out)) HB5.out (by have := HM5.out; omega)).mono ?_
        rintro e w' ⟨rfl, rfl⟩
        refine ⟨_, rfl, ?_⟩
        refine hK.out _ _ trivial (fun hHeld => ?_)
        clear hK K
        refine norm_ (a' := ?_) ?_ ?_
        rotate_left
        · show Act.put _ (some 49) _ = _
          simp only [Act.put, List.setIfInBounds_toArray, List.set_cons_zero, List.set_cons_succ]
          rfl
        refine pure_ (i := 8) (N := some 50) (v := ?_) (a' := ?_) #[true, true, true, true, true, true, true, true, true, true, true, false, false, false, true, false] rfl rfl (by kernel_rfl) (fun _ _ _ h => h) (Or.inl ⟨by rfl, ?_⟩) ?_ ?_
        rotate_left
        · intro w'
          go_simp
          with_reducible rfl
        rotate_left
        · simp only [Act.put, List.setIfInBounds_toArray, List.set_cons_zero, List.set_cons_succ]
          rfl
        refine one_ (i := 11) (N := some 53) #[true, true, true, true, true, true, true, true, true, true, true, true, false, false, true, false] rfl rfl (by kernel_rfl) (by decide) (fun K hK => ?_)
        refine goes_ Try.func62 (by kernel_rfl) rfl #[.slice A9 (seg l 9 13).length (c - 9)] (by rfl) rfl rfl (by (try simp only [List.map_toArray, List.map_cons, List.map_nil]); first | done | rfl) ?_
        refine (of_any _ _ (seg l 9 13) _ (HS9.out _ (Kd.C_below HC.out HW.out)) HB9.out (by have := HM9.out; omega)).mono ?_
        rintro e w' ⟨rfl, rfl⟩
        refine ⟨_, rfl, ?_⟩
        refine hK.out _ _ trivial (fun hHeld => ?_)
        clear hK K
        refine norm_ (a' := ?_) ?_ ?_
        rotate_left
        · show Act.put _ (some 53) _ = _
          simp only [Act.put, List.setIfInBounds_toArray, List.set_cons_zero, List.set_cons_succ]
          rfl
        refine pure_ (i := 12) (N := some 54) (v := ?_) (a' := ?_) #[true, true, true, true, true, true, true, true, true, true, true, true, true, false, true, false] rfl rfl (by kernel_rfl) (fun _ _ _ h => h) (Or.inl ⟨by rfl, ?_⟩) ?_ ?_
        rotate_left
        · intro w'
          go_simp
          with_reducible rfl
        rotate_left
        · simp only [Act.put, List.setIfInBounds_toArray, List.set_cons_zero, List.set_cons_succ]
          rfl
        refine pure_ (i := 13) (N := some 55) (v := ?_) (a' := ?_) #[true, true, true, true, true, true, true, true, true, true, true, true, true, true, true, false] rfl rfl (by kernel_rfl) (fun _ _ _ h => h) (Or.inl ⟨by rfl, ?_⟩) ?_ ?_
        rotate_left
        · intro w'
          go_simp
          with_reducible rfl
        rotate_left
        · simp only [Act.put, List.setIfInBounds_toArray, List.set_cons_zero, List.set_cons_succ]
          rfl
        have h9 := hcont g6 _ ⟨HW.out, HP.out, HX.out, hgx⟩
        simp only [putAll, Act.put, List.setIfInBounds_toArray, List.set_cons_zero, List.set_cons_succ] at h9
        exact h9
    · skip
      refine box_step (by rfl) (N := 7) rfl (cs := #[.int .i64 0, .int .u32 0, .int .u32 0, .int .u32 0, .int .u32 0, .int .u32 0, .int .u32 0, .int .u32 0, .complex .f64 0 0, .slice none 0 0]) (t := 27) (by first | (go_simp; done) | (go_simp; rfl)) ?_
      intro g6 hg6 w6 hbx hb3
      have hgx : w.heap.size < g6 := by have := blk_lt HP.out; omega
      have HW9 := HW.out.trans (hb3.mono HW.out.size)
      have HP9 := (hb3.block w.heap.size (blk_lt HP.out)).trans HP.out
      clear HW HP
      have HW := Lib.hid HW9
      have HP := Lib.hid HP9
      have HX := Lib.hid hbx
      clear HW9 HP9 hbx hb3 hg6
      refine hK.out _ _ trivial (fun hHeld => ?_)
      clear hK K
      refine norm_ (a' := ?_) ?_ ?_
      rotate_left
      · show Act.put _ (some 7) _ = _
        simp only [Act.put, List.setIfInBounds_toArray, List.set_cons_zero, List.set_cons_succ]
        rfl
      refine one_ (i := 3) (N := some 45) #[true, true, true, true, false, true, true, false, false, true, true, false, false, false, true, false] rfl rfl (by kernel_rfl) (by decide) (fun K hK => ?_)
      refine goes_ Try.func62 (by kernel_rfl) rfl #[.slice A1 (seg l 1 5).length (c - 1)] (by rfl) rfl rfl (by (try simp only [List.map_toArray, List.map_cons, List.map_nil]); first | done | rfl) ?_
      refine (of_any _ _ (seg l 1 5) _ (HS1.out _ (Kd.C_below HC.out HW.out)) HB1.out (by have := HM1.out; omega)).mono ?_
      rintro e w' ⟨rfl, rfl⟩
      refine ⟨_, rfl, ?_⟩
      refine hK.out _ _ trivial (fun hHeld => ?_)
      clear hK K
      refine norm_ (a' := ?_) ?_ ?_
      rotate_left
      · show Act.put _ (some 45) _ = _
        simp only [Act.put, List.setIfInBounds_toArray, List.set_cons_zero, List.set_cons_succ]
        rfl
      refine pure_ (i := 4) (N := some 46) (v := ?_) (a' := ?_) #[true, true, true, true, true, true, true, false, false, true, true, false, false, false, true, false] rfl rfl (by kernel_rfl) (fun _ _ _ h => h) (Or.inl ⟨by rfl, ?_⟩) ?_ ?_
      rotate_left
      · intro w'
        go_simp
        with_reducible rfl
      rotate_left
      · simp only [Act.put, List.setIfInBounds_toArray, List.set_cons_zero, List.set_cons_succ]
        rfl
      refine one_ (i := 7) (N := some 49) #[true, true, true, true, true, true, true, true, false, true, true, false, false, false, true, false] rfl rfl (by kernel_rfl) (by decide) (fun K hK => ?_)
      refine goes_ Try.func62 (by kernel_rfl) rfl #[.slice A5 (seg l 5 9).length (c - 5)] (by rfl) rfl rfl (by (try simp only [List.map_toArray, List.map_cons, List.map_nil]); first | done | rfl) ?_
      refine (of_any _ _ (seg l 5 9) _ (HS5.out _ (Kd.C_below HC.out HW.out)) HB5.out (by have := HM5.out; omega)).mono ?_
      rintro e w' ⟨rfl, rfl⟩
      refine ⟨_, rfl, ?_⟩
      refine hK.out _ _ trivial (fun hHeld => ?_)
      clear hK K
      refine norm_ (a' := ?_) ?_ ?_
      rotate_left
      · show Act.put _ (some 49) _ = _
        simp only [Act.put, List.setIfInBounds_toArray, List.set_cons_zero, List.set_cons_succ]
        rfl
      refine pure_ (i := 8) (N := some 50) (v := ?_) (a' := ?_) #[true, true, true, true, true, true, true, true, true, true, true, false, false, false, true, false] rfl rfl (by kernel_rfl) (fun _ _ _ h => h) (Or.inl ⟨by rfl, ?_⟩) ?_ ?_
      rotate_left
      · intro w'
        go_simp
        with_reducible rfl
      rotate_left
      · simp only [Act.put, List.setIfInBounds_toArray, List.set_cons_zero, List.set_cons_succ]
        rfl
      refine one_ (i := 11) (N := some 53) #[true, true, true, true, true, true, true, true, true, true, true, true, false, false, true, false] rfl rfl (by kernel_rfl) (by decide) (fun K hK => ?_)
      refine goes_ Try.func62 (by kernel_rfl) rfl #[.slice A9 (seg l 9 13).length (c - 9)] (by rfl) rfl rfl (by (try simp only [List.map_toArray, List.map_cons, List.map_nil]); first | done | rfl) ?_
      refine (of_any _ _ (seg l 9 13) _ (HS9.out _ (Kd.C_below HC.out HW.out)) HB9.out (by have := HM9.out; omega)).mono ?_
      rintro e w' ⟨rfl, rfl⟩
      refine ⟨_, rfl, ?_⟩
      refine hK.out _ _ trivial (fun hHeld => ?_)
      clear hK K
      refine norm_ (a' := ?_) ?_ ?_
      rotate_left
      · show Act.put _ (some 53) _ = _
        simp only [Act.put, List.setIfInBounds_toArray, List.set_cons_zero, List.set_cons_succ]
        rfl
      refine pure_ (i := 12) (N := some 54) (v := ?_) (a' := ?_) #[true, true, true, true, true, true, true, true, true, true, true, true, true, false, true, false] rfl rfl (by kernel_rfl) (fun _ _ _ h => h) (Or.inl ⟨by rfl, ?_⟩) ?_ ?_
      rotate_left
      · intro w'
        go_simp
        with_reducible rfl
      rotate_left
      · simp only [Act.put, List.setIfInBounds_toArray, List.set_cons_zero, List.set_cons_succ]
        rfl
      refine pure_ (i := 13) (N := some 55) (v := ?_) (a' := ?_) #[true, true, true, true, true, true, true, true, true, true, true, true, true, true, true, false] rfl rfl (by kernel_rfl) (fun _ _ _ h => h) (Or.inl ⟨by rfl, ?_⟩) ?_ ?_
      rotate_left
      · intro w'
        go_simp
        with_reducible rfl
      rotate_left
      · simp only [Act.put, List.setIfInBounds_toArray, List.set_cons_zero, List.set_cons_succ]
        rfl
      have h9 := hcont g6 _ ⟨HW.out, HP.out, HX.out, hgx⟩
      simp only [putAll, Act.put, List.setIfInBounds_toArray, List.set_cons_zero, List.set_cons_succ] at h9
      exact h9
  intro g6 w6 ⟨hW, hP, hX, hgx⟩
  clear HW HP
  refine norm_ (a' := ?_) ?_ ?_
  rotate_left
  · show putAll _ _ = _
    simp only [putAll, Act.put, List.setIfInBounds_toArray, List.set_cons_zero, List.set_cons_succ]
    rfl
  have hc0 : w6.cell? ⟨g6, 0, none⟩ = some (.int .i64 0) := (blk_cell hX 0).trans rfl
  have hf0 := blk_frozen hX 0
  have hc1 : w6.cell? ⟨g6, 1, none⟩ = some (.int .u32 0) := (blk_cell hX 1).trans rfl
  have hf1 := blk_frozen hX 1
  have hc2 : w6.cell? ⟨g6, 2, none⟩ = some (.int .u32 0) := (blk_cell hX 2).trans rfl
  have hf2 := blk_frozen hX 2
  have hc3 : w6.cell? ⟨g6, 3, none⟩ = some (.int .u32 0) := (blk_cell hX 3).trans rfl
  have hf3 := blk_frozen hX 3
  have hc4 : w6.cell? ⟨g6, 4, none⟩ = some (.int .u32 0) := (blk_cell hX 4).trans rfl
  have hf4 := blk_frozen hX 4
  have hc5 : w6.cell? ⟨g6, 5, none⟩ = some (.int .u32 0) := (blk_cell hX 5).trans rfl
  have hf5 := blk_frozen hX 5
  have hc6 : w6.cell? ⟨g6, 6, none⟩ = some (.int .u32 0) := (blk_cell hX 6).trans rfl
  have hf6 := blk_frozen hX 6
  have hc7 : w6.cell? ⟨g6, 7, none⟩ = some (.int .u32 0) := (blk_cell hX 7).trans rfl
  have hf7 := blk_frozen hX 7
  have hc8 : w6.cell? ⟨g6, 8, none⟩ = some (.complex .f64 0 0) := (blk_cell hX 8).trans rfl
  have hf8 := blk_frozen hX 8
  have hc9 : w6.cell? ⟨g6, 9, none⟩ = some (.slice none 0 0) := (blk_cell hX 9).trans rfl
  have hf9 := blk_frozen hX 9
  refine one_ (i := 15) (N := none) #[true, true, true, true, true, true, true, true, true, true, true, true, true, true, true, true] rfl rfl (by kernel_rfl) (by decide) (fun K hK => ?_)
  refine skip_F (fun w7 => w7.heap[g6]? = some (.cells #[.int .i64 4, .int .u32 (IntKind.u32.wrap (bigOf 0 (seg l 1 5))), .int .u32 (IntKind.u32.wrap (bigOf 0 (seg l 5 9))), .int .u32 (IntKind.u32.wrap (bigOf 0 (seg l 9 13))), .int .u32 0, .int .u32 0, .int .u32 0, .int .u32 0, .complex .f64 0 0, .slice none 0 0] 27 (0, 0)) ∧ At g6 w6 w7) (by rfl) rfl ⟨_, by first | (go_simp; done) | (go_simp; rfl), ?_, ?_⟩ (fun w7 hF => ?_)
  · skip
    refine blk_put (cs := #[.int .i64 4, .int .u32 (IntKind.u32.wrap (bigOf 0 (seg l 1 5))), .int .u32 (IntKind.u32.wrap (bigOf 0 (seg l 5 9))), .int .u32 (IntKind.u32.wrap (bigOf 0 (seg l 9 13))), .int .u32 0, .int .u32 0, .int .u32 0, .int .u32 0, .complex .f64 0 0, .slice none 0 0]) ?_ 9 _ rfl
    refine blk_put (cs := #[.int .i64 4, .int .u32 (IntKind.u32.wrap (bigOf 0 (seg l 1 5))), .int .u32 (IntKind.u32.wrap (bigOf 0 (seg l 5 9))), .int .u32 (IntKind.u32.wrap (bigOf 0 (seg l 9 13))), .int .u32 0, .int .u32 0, .int .u32 0, .int .u32 0, .complex .f64 0 0, .slice none 0 0]) ?_ 8 _ rfl
    refine blk_put (cs := #[.int .i64 4, .int .u32 (IntKind.u32.wrap (bigOf 0 (seg l 1 5))), .int .u32 (IntKind.u32.wrap (bigOf 0 (seg l 5 9))), .int .u32 (IntKind.u32.wrap (bigOf 0 (seg l 9 13))), .int .u32 0, .int .u32 0, .int .u32 0, .int .u32 0, .complex .f64 0 0, .slice none 0 0]) ?_ 7 _ rfl
    refine blk_put (cs := #[.int .i64 4, .int .u32 (IntKind.u32.wrap (bigOf 0 (seg l 1 5))), .int .u32 (IntKind.u32.wrap (bigOf 0 (seg l 5 9))), .int .u32 (IntKind.u32.wrap (bigOf 0 (seg l 9 13))), .int .u32 0, .int .u32 0, .int .u32 0, .int .u32 0, .complex .f64 0 0, .slice none 0 0]) ?_ 6 _ rfl
    refine blk_put (cs := #[.int .i64 4, .int .u32 (IntKind.u32.wrap (bigOf 0 (seg l 1 5))), .int .u32 (IntKind.u32.wrap (bigOf 0 (seg l 5 9))), .int .u32 (IntKind.u32.wrap (bigOf 0 (seg l 9 13))), .int .u32 0, .int .u32 0, .int .u32 0, .int .u32 0, .complex .f64 0 0, .slice none 0 0]) ?_ 5 _ rfl
    refine blk_put (cs := #[.int .i64 4, .int .u32 (IntKind.u32.wrap (bigOf 0 (seg l 1 5))), .int .u32 (IntKind.u32.wrap (bigOf 0 (seg l 5 9))), .int .u32 (IntKind.u32.wrap (bigOf 0 (seg l 9 13))), .int .u32 0, .int .u32 0, .int .u32 0, .int .u32 0, .complex .f64 0 0, .slice none 0 0]) ?_ 4 _ rfl
    refine blk_put (cs := #[.int .i64 4, .int .u32 (IntKind.u32.wrap (bigOf 0 (seg l 1 5))), .int .u32 (IntKind.u32.wrap (bigOf 0 (seg l 5 9))), .int .u32 0, .int .u32 0, .int .u32 0, .int .u32 0, .int .u32 0, .complex .f64 0 0, .slice none 0 0]) ?_ 3 _ rfl
    refine blk_put (cs := #[.int .i64 4, .int .u32 (IntKind.u32.wrap (bigOf 0 (seg l 1 5))), .int .u32 0, .int .u32 0, .int .u32 0, .int .u32 0, .int .u32 0, .int .u32 0, .complex .f64 0 0, .slice none 0 0]) ?_ 2 _ rfl
    refine blk_put (cs := #[.int .i64 4, .int .u32 0, .int .u32 0, .int .u32 0, .int .u32 0, .int .u32 0, .int .u32 0, .int .u32 0, .complex .f64 0 0, .slice none 0 0]) ?_ 1 _ rfl
    refine blk_put (cs := #[.int .i64 0, .int .u32 0, .int .u32 0, .int .u32 0, .int .u32 0, .int .u32 0, .int .u32 0, .int .u32 0, .complex .f64 0 0, .slice none 0 0]) ?_ 0 _ rfl
    exact hX
  · repeat (first | (with_reducible exact At.refl _ _) | refine At.set ?_ _ _)
  obtain ⟨hX7, hat⟩ := hF
  have HW := Lib.hid (hat.below hW (by omega))
  have HP := Lib.hid ((hat.block w.heap.size (by omega)).trans hP)
  have HX := Lib.hid hX7
  clear hW hP hX hat hX7 hc0 hf0 hc1 hf1 hc2 hf2 hc3 hf3 hc4 hf4 hc5 hf5 hc6 hf6 hc7 hf7 hc8 hf8 hc9 hf9
  refine hK.out _ _ trivial (fun hHeld => ?_)
  clear hK K hHeld
  refine done_ (by kernel_rfl) ?_
  have HQ1 := Lib.hid (big_lt (seg (cutd 4 l) 21 29) HD21.out)
  have HQ2 := Lib.hid (big_lt (seg (cutd 4 l) 29 37) HD29.out)
  go_wp2_with (first | (go_at_call 62; (with_reducible refine (of_any B9 _ (seg (cutd 4 l) 9 13) _ (HT9.out _ (HA4.out _ (Kd.C_below HC.out HW.out))) HD9.out (by have := HN9.out; omega)).mono ?_); rintro e w' ⟨rfl, rfl⟩) | (go_at_call 62; (with_reducible refine (of_any B13 _ (seg (cutd 4 l) 13 17) _ (HT13.out _ (HA4.out _ (Kd.C_below HC.out HW.out))) HD13.out (by have := HN13.out; omega)).mono ?_); rintro e w' ⟨rfl, rfl⟩) | (go_at_call 62; (with_reducible refine (of_any B17 _ (seg (cutd 4 l) 17 21) _ (HT17.out _ (HA4.out _ (Kd.C_below HC.out HW.out))) HD17.out (by have := HN17.out; omega)).mono ?_); rintro e w' ⟨rfl, rfl⟩) | (go_at_call 62; (with_reducible refine (of_any B21 _ (seg (cutd 4 l) 21 29) _ (HT21.out _ (HA4.out _ (Kd.C_below HC.out HW.out))) HD21.out (by have := HN21.out; omega)).mono ?_); rintro e w' ⟨rfl, rfl⟩) | (go_at_call 62; (with_reducible refine (of_any B29 _ (seg (cutd 4 l) 29 37) _ (HT29.out _ (HA4.out _ (Kd.C_below HC.out HW.out))) HD29.out (by have := HN29.out; omega)).mono ?_); rintro e w' ⟨rfl, rfl⟩) | ((with_reducible refine gate_ (.store 24 (.tmp 96) (.tmp 95)) rfl ?_); (have hc5 : w7.cell? ⟨g6, 5, none⟩ = some (.int .u32 0) := (blk_cell HX.out 5).trans rfl); (have hf5 := blk_frozen HX.out 5); (refine store_F (fun wz => wz.heap[g6]? = some (.cells #[.int .i64 4, .int .u32 (IntKind.u32.wrap (bigOf 0 (seg l 1 5))), .int .u32 (IntKind.u32.wrap (bigOf 0 (seg l 5 9))), .int .u32 (IntKind.u32.wrap (bigOf 0 (seg l 9 13))), .int .u32 0, .int .u32 (IntKind.u32.wrap (bigOf 0 (seg (cutd 4 l) 9 13))), .int .u32 0, .int .u32 0, .complex .f64 0 0, .slice none 0 0] 27 (0, 0)) ∧ At g6 w7 wz) rfl rfl ⟨_, (by first | (go_simp; done) | (go_simp; rfl)), blk_put HX.out 5 _ rfl, At.set (At.refl _ _) _ _⟩ (fun w8 hF => ?_)); (obtain ⟨hX9, hat⟩ := hF); (clear hc5 hf5); (have HW9 := hat.below HW.out (by omega)); (have HP9 := (hat.block w.heap.size (by omega)).trans HP.out); (clear HW HP HX); (have HX := Lib.hid hX9); (clear hX9); (have HW := Lib.hid HW9); (have HP := Lib.hid HP9); (clear HW9 HP9 hat)) | ((with_reducible refine gate_ (.store 24 (.tmp 101) (.tmp 100)) rfl ?_); (have hc6 : w8.cell? ⟨g6, 6, none⟩ = some (.int .u32 0) := (blk_cell HX.out 6).trans rfl); (have hf6 := blk_frozen HX.out 6); (refine store_F (fun wz => wz.heap[g6]? = some (.cells #[.int .i64 4, .int .u32 (IntKind.u32.wrap (bigOf 0 (seg l 1 5))), .int .u32 (IntKind.u32.wrap (bigOf 0 (seg l 5 9))), .int .u32 (IntKind.u32.wrap (bigOf 0 (seg l 9 13))), .int .u32 0, .int .u32 (IntKind.u32.wrap (bigOf 0 (seg (cutd 4 l) 9 13))), .int .u32 (IntKind.u32.wrap (bigOf 0 (seg (cutd 4 l) 13 17))), .int .u32 0, .complex .f64 0 0, .slice none 0 0] 27 (0, 0)) ∧ At g6 w8 wz) rfl rfl ⟨_, (by first | (go_simp; done) | (go_simp; rfl)), blk_put HX.out 6 _ rfl, At.set (At.refl _ _) _ _⟩ (fun w9 hF => ?_)); (obtain ⟨hX9, hat⟩ := hF); (clear hc6 hf6); (have HW9 := hat.below HW.out (by omega)); (have HP9 := (hat.block w.heap.size (by omega)).trans HP.out); (clear HW HP HX); (have HX := Lib.hid hX9); (clear hX9); (have HW := Lib.hid HW9); (have HP := Lib.hid HP9); (clear HW9 HP9 hat)) | ((with_reducible refine gate_ (.store 24 (.tmp 106) (.tmp 105)) rfl ?_); (have hc7 : w9.cell? ⟨g6, 7, none⟩ = some (.int .u32 0) := (blk_cell HX.out 7).trans rfl); (have hf7 := blk_frozen HX.out 7); (refine store_F (fun wz => wz.heap[g6]? = some (.cells #[.int .i64 4, .int .u32 (IntKind.u32.wrap (bigOf 0 (seg l 1 5))), .int .u32 (IntKind.u32.wrap (bigOf 0 (seg l 5 9))), .int .u32 (IntKind.u32.wrap (bigOf 0 (seg l 9 13))), .int .u32 0, .int .u32 (IntKind.u32.wrap (bigOf 0 (seg (cutd 4 l) 9 13))), .int .u32 (IntKind.u32.wrap (bigOf 0 (seg (cutd 4 l) 13 17))), .int .u32 (IntKind.u32.wrap (bigOf 0 (seg (cutd 4 l) 17 21))), .complex .f64 0 0, .slice none 0 0] 27 (0, 0)) ∧ At g6 w9 wz) rfl rfl ⟨_, (by first | (go_simp; done) | (go_simp; rfl)), blk_put HX.out 7 _ rfl, At.set (At.refl _ _) _ _⟩ (fun w10 hF => ?_)); (obtain ⟨hX9, hat⟩ := hF); (clear hc7 hf7); (have HW9 := hat.below HW.out (by omega)); (have HP9 := (hat.block w.heap.size (by omega)).trans HP.out); (clear HW HP HX); (have HX := Lib.hid hX9); (clear hX9); (have HW := Lib.hid HW9); (have HP := Lib.hid HP9); (clear HW9 HP9 hat)))
  have HW9 : Below w.heap.size w w10.drew := bl_drew HW.out
  have HP9 : w10.drew.heap[w.heap.size]? = some (.cells #[.int .i64 0, .int .u32 0, .int .u32 0, .int .u32 0, .int .u32 0, .int .u32 0, .int .u32 0, .int .u32 0, .complex .f64 0 0, .slice none 0 0] 27 (0, 0)) := HP.out
  have HX9 : w10.drew.heap[g6]? = some (.cells #[.int .i64 4, .int .u32 (IntKind.u32.wrap (bigOf 0 (seg l 1 5))), .int .u32 (IntKind.u32.wrap (bigOf 0 (seg l 5 9))), .int .u32 (IntKind.u32.wrap (bigOf 0 (seg l 9 13))), .int .u32 0, .int .u32 (IntKind.u32.wrap (bigOf 0 (seg (cutd 4 l) 9 13))), .int .u32 (IntKind.u32.wrap (bigOf 0 (seg (cutd 4 l) 13 17))), .int .u32 (IntKind.u32.wrap (bigOf 0 (seg (cutd 4 l) 17 21))), .complex .f64 0 0, .slice none 0 0] 27 (0, 0)) := HX.out
  clear HW HP HX
  have HW := Lib.hid HW9
  have HP := Lib.hid HP9
  have HX := Lib.hid HX9
  clear HW9 HP9 HX9
  refine start_ (n := 11) (S := fun w' => True) (ds := []) #[false, false, false, false, false, false, false, false, false, false, false] (by kernel_rfl) rfl rfl (trivial) (fun hHeld => ?_)
  generalize w10.drew = w11 at HW HP HX hHeld ⊢
  refine pure_ (i := 0) (N := some 107) (v := ?_) (a' := ?_) #[true, false, false, false, false, false, false, false, false, false, false] rfl rfl (by kernel_rfl) (fun _ _ _ h => h) (Or.inl ⟨by rfl, ?_⟩) ?_ ?_
  rotate_left
  · intro w'
    go_simp
    with_reducible rfl
  rotate_left
  · simp only [Act.put, List.setIfInBounds_toArray, List.set_cons_zero, List.set_cons_succ]
    rfl
  refine pure_ (i := 1) (N := some 108) (v := ?_) (a' := ?_) #[true, true, false, false, false, false, false, false, false, false, false] rfl rfl (by kernel_rfl) (fun _ _ _ h => h) (Or.inl ⟨by rfl, ?_⟩) ?_ ?_
  rotate_left
  · intro w'
    go_simp
    with_reducible rfl
  rotate_left
  · simp only [Act.put, List.setIfInBounds_toArray, List.set_cons_zero, List.set_cons_succ]
    rfl
  refine pure_ (i := 4) (N := some 111) (v := ?_) (a' := ?_) #[true, true, false, false, true, false, false, false, false, false, false] rfl rfl (by kernel_rfl) (fun _ _ _ h => h) (Or.inl ⟨by rfl, ?_⟩) ?_ ?_
  rotate_left
  · intro w'
    go_simp
    with_reducible rfl
  rotate_left
  · simp only [Act.put, List.setIfInBounds_toArray, List.set_cons_zero, List.set_cons_succ]
    rfl
  refine pure_ (i := 5) (N := some 112) (v := ?_) (a' := ?_) #[true, true, false, false, true, true, false, false, false, false, false] rfl rfl (by kernel_rfl) (fun _ _ _ h => h) (Or.inl ⟨by rfl, ?_⟩) ?_ ?_
  rotate_left
  · intro w'
    go_simp
    with_reducible rfl
  rotate_left
  · simp only [Act.put, List.setIfInBounds_toArray, List.set_cons_zero, List.set_cons_succ]
    rfl
  refine one_ (i := 2) (N := some 109) #[true, true, true, false, true, true, false, false, false, false, false] rfl rfl (by kernel_rfl) (by decide) (fun K hK => ?_)
  refine goes_ Try.func62 (by kernel_rfl) rfl #[.slice B21 (seg (cutd 4 l) 21 29).length (c - 4 - 21)] (by rfl) rfl rfl (by (try simp only [List.map_toArray, List.map_cons, List.map_nil]); first | done | rfl) ?_
  refine (of_any _ _ (seg (cutd 4 l) 21 29) _ (HT21.out _ (HA4.out _ (Kd.C_below HC.out HW.out))) HD21.out (by have := HN21.out; omega)).mono ?_
  rintro e w' ⟨rfl, rfl⟩
  refine ⟨_, rfl, ?_⟩
  refine hK.out _ _ trivial (fun hHeld => ?_)
  clear hK K
  refine norm_ (a' := ?_) ?_ ?_
  rotate_left
  · show Act.put _ (some 109) _ = _
    simp only [Act.put, List.setIfInBounds_toArray, List.set_cons_zero, List.set_cons_succ]
    rfl
  refine one_ (i := 3) (N := some 110) #[true, true, true, true, true, true, false, false, false, false, false] rfl rfl (by kernel_rfl) (by decide) (fun K hK => ?_)
  refine value_ (v := .float .f64 (bigOf 0 (seg (cutd 4 l) 21 29)).toNat) (by rfl) rfl (w1 := w11) ?_ ?_
  · first | (go_simp; done) | (go_simp; rfl)
  refine hK.out _ _ trivial (fun hHeld => ?_)
  clear hK K
  refine norm_ (a' := ?_) ?_ ?_
  rotate_left
  · show Act.put _ (some 110) _ = _
    simp only [Act.put, List.setIfInBounds_toArray, List.set_cons_zero, List.set_cons_succ]
    rfl
  refine one_ (i := 6) (N := some 113) #[true, true, true, true, true, true, true, false, false, false, false] rfl rfl (by kernel_rfl) (by decide) (fun K hK => ?_)
  refine goes_ Try.func62 (by kernel_rfl) rfl #[.slice B29 (seg (cutd 4 l) 29 37).length (c - 4 - 29)] (by rfl) rfl rfl (by (try simp only [List.map_toArray, List.map_cons, List.map_nil]); first | done | rfl) ?_
  refine (of_any _ _ (seg (cutd 4 l) 29 37) _ (HT29.out _ (HA4.out _ (Kd.C_below HC.out HW.out))) HD29.out (by have := HN29.out; omega)).mono ?_
  rintro e w' ⟨rfl, rfl⟩
  refine ⟨_, rfl, ?_⟩
  refine hK.out _ _ trivial (fun hHeld => ?_)
  clear hK K
  refine norm_ (a' := ?_) ?_ ?_
  rotate_left
  · show Act.put _ (some 113) _ = _
    simp only [Act.put, List.setIfInBounds_toArray, List.set_cons_zero, List.set_cons_succ]
    rfl
  refine one_ (i := 7) (N := some 114) #[true, true, true, true, true, true, true, true, false, false, false] rfl rfl (by kernel_rfl) (by decide) (fun K hK => ?_)
  refine value_ (v := .float .f64 (bigOf 0 (seg (cutd 4 l) 29 37)).toNat) (by rfl) rfl (w1 := w11) ?_ ?_
  · first | (go_simp; done) | (go_simp; rfl)
  refine hK.out _ _ trivial (fun hHeld => ?_)
  clear hK K
  refine norm_ (a' := ?_) ?_ ?_
  rotate_left
  · show Act.put _ (some 114) _ = _
    simp only [Act.put, List.setIfInBounds_toArray, List.set_cons_zero, List.set_cons_succ]
    rfl
  refine pure_ (i := 8) (N := some 115) (v := ?_) (a' := ?_) #[true, true, true, true, true, true, true, true, true, false, false] rfl rfl (by kernel_rfl) (fun _ _ _ h => h) (Or.inl ⟨by rfl, ?_⟩) ?_ ?_
  rotate_left
  · intro w'
    go_simp
    with_reducible rfl
  rotate_left
  · simp only [Act.put, List.setIfInBounds_toArray, List.set_cons_zero, List.set_cons_succ]
    rfl
  refine pure_ (i := 9) (N := some 116) (v := ?_) (a' := ?_) #[true, true, true, true, true, true, true, true, true, true, false] rfl rfl (by kernel_rfl) (fun _ _ _ h => h) (Or.inl ⟨by rfl, ?_⟩) ?_ ?_
  rotate_left
  · intro w'
    go_simp
    with_reducible rfl
  rotate_left
  · simp only [Act.put, List.setIfInBounds_toArray, List.set_cons_zero, List.set_cons_succ]
    rfl
  have hc8 : w11.cell? ⟨g6, 8, none⟩ = some (.complex .f64 0 0) := (blk_cell HX.out 8).trans rfl
  have hf8 := blk_frozen HX.out 8
  refine one_ (i := 10) (N := none) #[true, true, true, true, true, true, true, true, true, true, true] rfl rfl (by kernel_rfl) (by decide) (fun K hK => ?_)
  refine skip_F (fun wz => wz.heap[g6]? = some (.cells #[.int .i64 4, .int .u32 (IntKind.u32.wrap (bigOf 0 (seg l 1 5))), .int .u32 (IntKind.u32.wrap (bigOf 0 (seg l 5 9))), .int .u32 (IntKind.u32.wrap (bigOf 0 (seg l 9 13))), .int .u32 0, .int .u32 (IntKind.u32.wrap (bigOf 0 (seg (cutd 4 l) 9 13))), .int .u32 (IntKind.u32.wrap (bigOf 0 (seg (cutd 4 l) 13 17))), .int .u32 (IntKind.u32.wrap (bigOf 0 (seg (cutd 4 l) 17 21))), .complex .f64 (bigOf 0 (seg (cutd 4 l) 21 29)).toNat (bigOf 0 (seg (cutd 4 l) 29 37)).toNat, .slice none 0 0] 27 (0, 0)) ∧ At g6 w11 wz) (by rfl) rfl ⟨_, (by first | (go_simp; done) | (go_simp; rfl)), blk_put HX.out 8 _ rfl, At.set (At.refl _ _) _ _⟩ (fun w12 hF => ?_)
  obtain ⟨hX9, hat⟩ := hF
  clear hc8 hf8
  have HW9 := hat.below HW.out (by omega)
  have HP9 := (hat.block w.heap.size (by omega)).trans HP.out
  clear HW HP HX
  have HX := Lib.hid hX9
  clear hX9
  have HW := Lib.hid HW9
  have HP := Lib.hid HP9
  clear HW9 HP9 hat
  refine hK.out _ _ trivial (fun hHeld => ?_)
  clear hK K hHeld
  refine done_ (by kernel_rfl) ?_
  have hc0 : w12.cell? ⟨g6, 0, none⟩ = some (.int .i64 4) := (blk_cell HX.out 0).trans rfl
  have hc1 : w12.cell? ⟨g6, 1, none⟩ = some (.int .u32 (IntKind.u32.wrap (bigOf 0 (seg l 1 5)))) := (blk_cell HX.out 1).trans rfl
  have hc2 : w12.cell? ⟨g6, 2, none⟩ = some (.int .u32 (IntKind.u32.wrap (bigOf 0 (seg l 5 9)))) := (blk_cell HX.out 2).trans rfl
  have hc3 : w12.cell? ⟨g6, 3, none⟩ = some (.int .u32 (IntKind.u32.wrap (bigOf 0 (seg l 9 13)))) := (blk_cell HX.out 3).trans rfl
  have hc4 : w12.cell? ⟨g6, 4, none⟩ = some (.int .u32 0) := (blk_cell HX.out 4).trans rfl
  have hc5 : w12.cell? ⟨g6, 5, none⟩ = some (.int .u32 (IntKind.u32.wrap (bigOf 0 (seg (cutd 4 l) 9 13)))) := (blk_cell HX.out 5).trans rfl
  have hc6 : w12.cell? ⟨g6, 6, none⟩ = some (.int .u32 (IntKind.u32.wrap (bigOf 0 (seg (cutd 4 l) 13 17)))) := (blk_cell HX.out 6).trans rfl
  have hc7 : w12.cell? ⟨g6, 7, none⟩ = some (.int .u32 (IntKind.u32.wrap (bigOf 0 (seg (cutd 4 l) 17 21)))) := (blk_cell HX.out 7).trans rfl
  have hc8 : w12.cell? ⟨g6, 8, none⟩ = some (.complex .f64 (bigOf 0 (seg (cutd 4 l) 21 29)).toNat (bigOf 0 (seg (cutd 4 l) 29 37)).toNat) := (blk_cell HX.out 8).trans rfl
  have hc9 : w12.cell? ⟨g6, 9, none⟩ = some (.slice none 0 0) := (blk_cell HX.out 9).trans rfl
  go_wp2_with (first | ((with_reducible refine gate_ (.store 27 (.tmp 2) (.tmp 121)) rfl ?_); (refine store_row_F rfl rfl 27 (.tmp 2) (.tmp 121) rfl w.heap.size _ rfl rfl 27 _ HP.out (by kernel_rfl) rfl (by kernel_rfl) ?_); (intro w5 hb5 hat5); (have HB5 := Lib.hid hb5); (have HAT5 := Lib.hid hat5); (clear hb5 hat5)) | ((with_reducible refine gate_ (.store 27 (.tmp 2) (.tmp 123)) rfl ?_); (refine store_row_F rfl rfl 27 (.tmp 2) (.tmp 123) rfl w.heap.size _ rfl rfl 27 _ HP.out (by kernel_rfl) rfl (by kernel_rfl) ?_); (intro w5 hb5 hat5); (have HB5 := Lib.hid hb5); (have HAT5 := Lib.hid hat5); (clear hb5 hat5)) | ((go_at_call 63); (refine (rcheck_any _ _ _ _ _ _ _ _ _ _ _ _ _ _ (wr0 _) (wr0 _) (wr0 _) (by decide) (HQ1.out) (HQ2.out)).mono ?_); (rintro e wc ⟨rfl, hb⟩); (have HW9 := HW.out.trans (hb.mono HW.out.size)); (have HP9 := (hb.block w.heap.size (blk_lt HP.out)).trans HP.out); (have HX9 := (hb.block g6 (blk_lt HX.out)).trans HX.out); (clear HW HP HX hb); (have HW := Lib.hid HW9); (have HP := Lib.hid HP9); (have HX := Lib.hid HX9); (clear HW9 HP9 HX9); (generalize hE : checkP _ _ _ _ _ _ _ _ _ _ _ = E); (have HE := Lib.hid hE); (clear hE); (have hq0 : wc.cell? ⟨g6, 0, none⟩ = some (.int .i64 4) := (blk_cell HX.out 0).trans rfl); (have hq1 : wc.cell? ⟨g6, 1, none⟩ = some (.int .u32 (IntKind.u32.wrap (bigOf 0 (seg l 1 5)))) := (blk_cell HX.out 1).trans rfl); (have hq2 : wc.cell? ⟨g6, 2, none⟩ = some (.int .u32 (IntKind.u32.wrap (bigOf 0 (seg l 5 9)))) := (blk_cell HX.out 2).trans rfl); (have hq3 : wc.cell? ⟨g6, 3, none⟩ = some (.int .u32 (IntKind.u32.wrap (bigOf 0 (seg l 9 13)))) := (blk_cell HX.out 3).trans rfl); (have hq4 : wc.cell? ⟨g6, 4, none⟩ = some (.int .u32 0) := (blk_cell HX.out 4).trans rfl); (have hq5 : wc.cell? ⟨g6, 5, none⟩ = some (.int .u32 (IntKind.u32.wrap (bigOf 0 (seg (cutd 4 l) 9 13)))) := (blk_cell HX.out 5).trans rfl); (have hq6 : wc.cell? ⟨g6, 6, none⟩ = some (.int .u32 (IntKind.u32.wrap (bigOf 0 (seg (cutd 4 l) 13 17)))) := (blk_cell HX.out 6).trans rfl); (have hq7 : wc.cell? ⟨g6, 7, none⟩ = some (.int .u32 (IntKind.u32.wrap (bigOf 0 (seg (cutd 4 l) 17 21)))) := (blk_cell HX.out 7).trans rfl); (have hq8 : wc.cell? ⟨g6, 8, none⟩ = some (.complex .f64 (bigOf 0 (seg (cutd 4 l) 21 29)).toNat (bigOf 0 (seg (cutd 4 l) 29 37)).toNat) := (blk_cell HX.out 8).trans rfl); (have hq9 : wc.cell? ⟨g6, 9, none⟩ = some (.slice none 0 0) := (blk_cell HX.out 9).trans rfl)))
  all_goals (
    refine bodyPost_ret (v := .tuple #[.agg (decAgg E #[.int .i64 4, .int .u32 (IntKind.u32.wrap (bigOf 0 (seg l 1 5))), .int .u32 (IntKind.u32.wrap (bigOf 0 (seg l 5 9))), .int .u32 (IntKind.u32.wrap (bigOf 0 (seg l 9 13))), .int .u32 0, .int .u32 (IntKind.u32.wrap (bigOf 0 (seg (cutd 4 l) 9 13))), .int .u32 (IntKind.u32.wrap (bigOf 0 (seg (cutd 4 l) 13 17))), .int .u32 (IntKind.u32.wrap (bigOf 0 (seg (cutd 4 l) 17 21))), .complex .f64 (bigOf 0 (seg (cutd 4 l) 21 29)).toNat (bigOf 0 (seg (cutd 4 l) 29 37)).toNat, .slice none 0 0]), .int .i64 E]) ?_ rfl ?_
    rotate_left
    · have hq := HE.out
      skip
      refine ⟨?_, HAT5.out.below HW.out (Nat.le_refl _)⟩
      (try simp only [wrapU32] at hq)
      simp only [wrapU32]
      first | rw [hq] | skip
    have hl5 := run_loadVar_row (P := Try.prog) w5 w.heap.size 27 27 _ (0, 0) _ HB5.out Try.underlying27 rfl (by kernel_rfl))
  all_goals first
    | (have hE0 : E ≠ 0 := by simp_all
       rw [decAgg, if_neg hE0]
       exact results_cell2 Try.results17 _ _ rfl rfl hl5)
    | (have hE0 : E = 0 := by simp_all
       rw [decAgg, if_pos hE0, hE0]
       exact results_cell2 Try.results17 _ _ rfl rfl hl5)
end Go.Proofs.Ytnkkgofpifhoeaa.Rk4
