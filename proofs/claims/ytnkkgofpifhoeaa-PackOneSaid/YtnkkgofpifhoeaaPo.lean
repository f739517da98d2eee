/- The law PackOne, walked: it answers true at all bytes. -/
import Derived.Test.YtnkkgofpifhoeaaAlive10
import Derived.Test.YtnkkgofpifhoeaaSame
import Derived.Test.YtnkkgofpifhoeaaDecAll
import Derived.Test.YtnkkgofpifhoeaaPoPlain
import Derived.Test.YtnkkgofpifhoeaaEnc2
import Derived.Test.YtnkkgofpifhoeaaEnc3
import Derived.Test.YtnkkgofpifhoeaaEnc4
namespace Go.Proofs.Ytnkkgofpifhoeaa.Pk
open Go.RowKit Go.Proofs.Ytnkkgofpifhoeaa.Flt Go.Proofs.Ytnkkgofpifhoeaa.Num Go.Proofs.Ytnkkgofpifhoeaa.Base Go.Proofs.YtnkkgofpifhoeaaW.PrintWords Go.Proofs.YtnkkgofpifhoeaaW.PrintLast Go.Proofs.Ytnkkgofpifhoeaa.Steps
set_option linter.unusedSimpArgs false
set_option linter.unusedVariables false
set_option maxRecDepth 100000 in
set_option maxHeartbeats 4000000 in
theorem po_bad (A : Option Addr) (c : Nat) (l : List Int) (w : World) (hC : Kd.C (Kd.int .u8) w A l.length l) (hcap : l.length ≤ c) (hby : bytesB l) (hd : decC l ≠ 0) : Calls Try.prog 4 #[.slice A l.length c] w fun e w' => e = .returned (.bool true) ∧ Below w.heap.size w w' := by
  have hp : decP l = Pkt.zero := by rw [decP, if_neg hd]
  have hne : (decC l != 0) = true := by simpa using hd
  have HP := Lib.hid hp
  have HN := Lib.hid hne
  clear hp hne hd
  have hu27 := Try.underlying27
  have hal := al27
  have hbz := bz27
  have HC := Lib.hid hC
  have HY := Lib.hid hby
  have HCAP := Lib.hid hcap
  clear hC hby hcap
  go_enter Try.func4, Try.ntmps4
  go_wp2_with fail
  refine (alive10 _).mono ?_
  rintro e w1 ⟨rfl, hb⟩
  have HW := Lib.hid hb
  clear hb
  go_wp2_with fail
  refine (decode_all A c l w1 (Kd.C_below HC.out HW.out) HCAP.out HY.out).mono ?_
  rintro e w4 ⟨v2, rfl, hR2, hb4⟩
  obtain ⟨A2, c2, hv2⟩ := Kd.R_slice hR2
  subst hv2
  have HW4 := Lib.hid (HW.out.trans (hb4.mono HW.out.size))
  have HR2 := Lib.hid (Kd.R_lower hR2 HW.out.size)
  clear hR2 hb4 HW
  have HR2' := HR2.out
  rw [HP.out] at HR2' ⊢
  clear HR2
  have HR2 := Lib.hid (show (Kd.int .u8).R 5 w4 w.heap.size (fun _ => True) (.slice A2 ([] : List Int).length c2) [] from HR2')
  clear HR2'
  simp only [pcells, Pkt.zero]
  have hne := HN.out
  go_wp2_with (first | ((with_reducible refine gate_ (.store 27 (.tmp 3) (.tmp 12)) rfl ?_); (refine store_row_F rfl rfl 27 (.tmp 3) (.tmp 12) rfl w4.heap.size #[.int .i64 0, .int .u32 0, .int .u32 0, .int .u32 0, .int .u32 0, .int .u32 0, .int .u32 0, .int .u32 0, .complex .f64 0 0, .slice A2 ([] : List Int).length c2] rfl rfl 27 _ (heap_alloc_new w4 _) (by kernel_rfl) rfl (by kernel_rfl) ?_); (intro w5 hb5 hat5); (have hb9 : Below w4.heap.size w4 w5 := hat5.below ((Below.refl w4.heap.size w4).alloc (Nat.le_refl _) _) (Nat.le_refl _)); (have hx0 : w5.cell? ⟨w4.heap.size, 0, none⟩ = some (.int .i64 0) := (blk_cell hb5 0).trans rfl); (have hx1 : w5.cell? ⟨w4.heap.size, 1, none⟩ = some (.int .u32 0) := (blk_cell hb5 1).trans rfl); (have hx2 : w5.cell? ⟨w4.heap.size, 2, none⟩ = some (.int .u32 0) := (blk_cell hb5 2).trans rfl); (have hx3 : w5.cell? ⟨w4.heap.size, 3, none⟩ = some (.int .u32 0) := (blk_cell hb5 3).trans rfl); (have hx4 : w5.cell? ⟨w4.heap.size, 4, none⟩ = some (.int .u32 0) := (blk_cell hb5 4).trans rfl); (have hx5 : w5.cell? ⟨w4.heap.size, 5, none⟩ = some (.int .u32 0) := (blk_cell hb5 5).trans rfl); (have hx6 : w5.cell? ⟨w4.heap.size, 6, none⟩ = some (.int .u32 0) := (blk_cell hb5 6).trans rfl); (have hx7 : w5.cell? ⟨w4.heap.size, 7, none⟩ = some (.int .u32 0) := (blk_cell hb5 7).trans rfl); (have hx8 : w5.cell? ⟨w4.heap.size, 8, none⟩ = some (.complex .f64 0 0) := (blk_cell hb5 8).trans rfl); (have hx9 : w5.cell? ⟨w4.heap.size, 9, none⟩ = some (.slice A2 ([] : List Int).length c2) := (blk_cell hb5 9).trans rfl); (obtain ⟨A2', c2', he2, _, hC2⟩ := Kd.R_reads (Kd.R_below HR2.out hb9)); (injection he2 with he2 _ _); (subst he2); (have HCB := Lib.hid hC2); (clear hC2); (have HB5 := Lib.hid hb5); (have HW5 := Lib.hid (HW4.out.trans (hb9.mono HW4.out.size))); (have HR5 := Lib.hid (Kd.R_below HR2.out hb9)); (clear hb5 hat5 hb9 HW4 HR2)) | (go_at_call 18; (refine (same_yes 0 0 0 0 0 0 0 0 0 0 A2 none _ _ [] w5 (by decide) (by decide) HCB.out (Kd.C_nil _ _)).mono ?_); (rintro e w8 ⟨rfl, hb8⟩); (have HW8 := Lib.hid hb8); (clear hb8)))
  go_ret
  exact ⟨rfl, HW5.out.trans (HW8.out.mono HW5.out.size)⟩
set_option maxRecDepth 100000 in
set_option maxHeartbeats 4000000 in
theorem po_1 (A : Option Addr) (c : Nat) (l : List Int) (w : World) (hC : Kd.C (Kd.int .u8) w A l.length l) (hcap : l.length ≤ c) (hby : bytesB l) (hk : rd l 0 = 1) (h : l.length = 14) (hd : decC l = 0) (hp : decP l = pkt1 l) (hck : (pkt1 l).code = 0) : Calls Try.prog 4 #[.slice A l.length c] w fun e w' => e = .returned (.bool true) ∧ Below w.heap.size w w' := by
  have hbytes := bytes1 l hby hk h
  have HBY := Lib.hid hbytes
  have hck' : checkP (1) (at4 l 1) (at4 l 5) (at4 l 9) (IntKind.u32.wrap (rd l 13)) (0) (0) (0) 0 0 ([] : List Int).length = 0 := hck
  have HCK := Lib.hid hck'
  have HZ := Lib.hid (show True from trivial)
  have HBL := Lib.hid (show ([] : List Int).length ≤ 20000 from by simp)
  have hp' : decP l = ⟨1, at4 l 1, at4 l 5, at4 l 9, IntKind.u32.wrap (rd l 13), 0, 0, 0, 0, 0, ([] : List Int)⟩ := hp
  have HP := Lib.hid hp'
  have HD := Lib.hid hd
  have HLL := Lib.hid h
  clear hbytes hck hck' hp hp' hd h
  have hu27 := Try.underlying27
  have hal := al27
  have hbz := bz27
  have HC := Lib.hid hC
  have HY := Lib.hid hby
  have HCAP := Lib.hid hcap
  clear hC hby hcap
  go_enter Try.func4, Try.ntmps4
  go_wp2_with fail
  refine (alive10 _).mono ?_
  rintro e w1 ⟨rfl, hb⟩
  have HW := Lib.hid hb
  clear hb
  go_wp2_with fail
  refine (decode_all A c l w1 (Kd.C_below HC.out HW.out) HCAP.out HY.out).mono ?_
  rintro e w4 ⟨v2, rfl, hR2, hb4⟩
  obtain ⟨A2, c2, hv2⟩ := Kd.R_slice hR2
  subst hv2
  have HW4 := Lib.hid (HW.out.trans (hb4.mono HW.out.size))
  have HR2 := Lib.hid (Kd.R_lower hR2 HW.out.size)
  clear hR2 hb4 HW
  have HR2' := HR2.out
  rw [HP.out] at HR2' ⊢
  rw [HD.out]
  clear HR2
  have HR2 := Lib.hid (show (Kd.int .u8).R 5 w4 w.heap.size (fun _ => True) (.slice A2 ([] : List Int).length c2) ([] : List Int) from HR2')
  clear HR2'
  simp only [pcells]
  go_wp2_with (first | ((with_reducible refine gate_ (.store 27 (.tmp 3) (.tmp 12)) rfl ?_); (refine store_row_F rfl rfl 27 (.tmp 3) (.tmp 12) rfl w4.heap.size #[.int .i64 1, .int .u32 (at4 l 1), .int .u32 (at4 l 5), .int .u32 (at4 l 9), .int .u32 (IntKind.u32.wrap (rd l 13)), .int .u32 (0), .int .u32 (0), .int .u32 (0), .complex .f64 0 0, .slice A2 ([] : List Int).length c2] rfl rfl 27 _ (heap_alloc_new w4 _) (by kernel_rfl) rfl (by kernel_rfl) ?_); (intro w5 hb5 hat5); (have hb9 : Below w4.heap.size w4 w5 := hat5.below ((Below.refl w4.heap.size w4).alloc (Nat.le_refl _) _) (Nat.le_refl _)); (have hx0 : w5.cell? ⟨w4.heap.size, 0, none⟩ = some (.int .i64 1) := (blk_cell hb5 0).trans rfl); (have hx1 : w5.cell? ⟨w4.heap.size, 1, none⟩ = some (.int .u32 (at4 l 1)) := (blk_cell hb5 1).trans rfl); (have hx2 : w5.cell? ⟨w4.heap.size, 2, none⟩ = some (.int .u32 (at4 l 5)) := (blk_cell hb5 2).trans rfl); (have hx3 : w5.cell? ⟨w4.heap.size, 3, none⟩ = some (.int .u32 (at4 l 9)) := (blk_cell hb5 3).trans rfl); (have hx4 : w5.cell? ⟨w4.heap.size, 4, none⟩ = some (.int .u32 (IntKind.u32.wrap (rd l 13))) := (blk_cell hb5 4).trans rfl); (have hx5 : w5.cell? ⟨w4.heap.size, 5, none⟩ = some (.int .u32 (0)) := (blk_cell hb5 5).trans rfl); (have hx6 : w5.cell? ⟨w4.heap.size, 6, none⟩ = some (.int .u32 (0)) := (blk_cell hb5 6).trans rfl); (have hx7 : w5.cell? ⟨w4.heap.size, 7, none⟩ = some (.int .u32 (0)) := (blk_cell hb5 7).trans rfl); (have hx8 : w5.cell? ⟨w4.heap.size, 8, none⟩ = some (.complex .f64 0 0) := (blk_cell hb5 8).trans rfl); (have hx9 : w5.cell? ⟨w4.heap.size, 9, none⟩ = some (.slice A2 ([] : List Int).length c2) := (blk_cell hb5 9).trans rfl); (obtain ⟨A2', c2', he2, _, hC2⟩ := Kd.R_reads (Kd.R_below HR2.out hb9)); (injection he2 with he2 _ _); (subst he2); (have HCB := Lib.hid hC2); (clear hC2); (have HB5 := Lib.hid hb5); (have HW5 := Lib.hid (HW4.out.trans (hb9.mono HW4.out.size))); (have HR5 := Lib.hid (Kd.R_below HR2.out hb9)); (clear hb5 hat5 hb9 HW4 HR2)) | (go_at_call 19; (refine (Ek1.encode_1 (at4 l 1) (at4 l 5) (at4 l 9) (IntKind.u32.wrap (rd l 13)) (0) (0) (0) 0 0 A2 _ ([] : List Int) w5 HCB.out HBL.out HCK.out (by decide) (by decide)).mono ?_); (rintro e w6 ⟨v6, rfl, hR6, hb6⟩); (rw [HBY.out] at hR6); (obtain ⟨A6, c6, hv6, _, hC6⟩ := Kd.R_reads hR6); (subst hv6); (have hb5 := (hb6.block w4.heap.size (blk_lt HB5.out)).trans HB5.out); (have hy0 : w6.cell? ⟨w4.heap.size, 0, none⟩ = some (.int .i64 1) := (blk_cell hb5 0).trans rfl); (have hy1 : w6.cell? ⟨w4.heap.size, 1, none⟩ = some (.int .u32 (at4 l 1)) := (blk_cell hb5 1).trans rfl); (have hy2 : w6.cell? ⟨w4.heap.size, 2, none⟩ = some (.int .u32 (at4 l 5)) := (blk_cell hb5 2).trans rfl); (have hy3 : w6.cell? ⟨w4.heap.size, 3, none⟩ = some (.int .u32 (at4 l 9)) := (blk_cell hb5 3).trans rfl); (have hy4 : w6.cell? ⟨w4.heap.size, 4, none⟩ = some (.int .u32 (IntKind.u32.wrap (rd l 13))) := (blk_cell hb5 4).trans rfl); (have hy5 : w6.cell? ⟨w4.heap.size, 5, none⟩ = some (.int .u32 (0)) := (blk_cell hb5 5).trans rfl); (have hy6 : w6.cell? ⟨w4.heap.size, 6, none⟩ = some (.int .u32 (0)) := (blk_cell hb5 6).trans rfl); (have hy7 : w6.cell? ⟨w4.heap.size, 7, none⟩ = some (.int .u32 (0)) := (blk_cell hb5 7).trans rfl); (have hy8 : w6.cell? ⟨w4.heap.size, 8, none⟩ = some (.complex .f64 0 0) := (blk_cell hb5 8).trans rfl); (have hy9 : w6.cell? ⟨w4.heap.size, 9, none⟩ = some (.slice A2 ([] : List Int).length c2) := (blk_cell hb5 9).trans rfl); (have HW6 := Lib.hid (HW5.out.trans (hb6.mono HW5.out.size))); (have hk1 := Kd.C_string (P := Try.prog) (c := c) Try.underlying22 Try.underlying5 Try.underlying9 (Kd.C_below HC.out HW6.out)); (have hk2 := Kd.C_string (P := Try.prog) (c := c6) Try.underlying22 Try.underlying5 Try.underlying9 hC6); (clear hb6 hb5 hC6 hR6)) | (go_at_call 20; (refine (check_any (1) (at4 l 1) (at4 l 5) (at4 l 9) (IntKind.u32.wrap (rd l 13)) (0) (0) (0) 0 0 A2 ([] : List Int).length _ w6 (by decide) (by decide)).mono ?_); (rintro e w8 ⟨rfl, hb8⟩); (rw [HCK.out]); (have HW8 := Lib.hid hb8); (clear hb8)))
  go_ret
  exact ⟨ret_bool (by simp), HW6.out.trans (HW8.out.mono HW6.out.size)⟩
set_option maxRecDepth 100000 in
set_option maxHeartbeats 4000000 in
theorem po_2 (A : Option Addr) (c : Nat) (l : List Int) (w : World) (hC : Kd.C (Kd.int .u8) w A l.length l) (hcap : l.length ≤ c) (hby : bytesB l) (hk : rd l 0 = 2) (h : 22 ≤ l.length) (h' : l.length ≤ 1021) (hd : decC l = 0) (hp : decP l = pkt2 l) (hck : (pkt2 l).code = 0) : Calls Try.prog 4 #[.slice A l.length c] w fun e w' => e = .returned (.bool true) ∧ Below w.heap.size w w' := by
  have hbytes := bytes2 l hby hk h
  have HBY := Lib.hid hbytes
  have hck' : checkP (2) (at4 l 1) (at4 l 5) (at4 l 9) (at4 l 13) (at4 l 17) (0) (0) 0 0 (cutd 21 l).length = 0 := hck
  have HCK := Lib.hid hck'
  have HZ := Lib.hid (show True from trivial)
  have HBL := Lib.hid (show (cutd 21 l).length ≤ 20000 from by rw [cutd_len]; omega)
  have hp' : decP l = ⟨2, at4 l 1, at4 l 5, at4 l 9, at4 l 13, at4 l 17, 0, 0, 0, 0, (cutd 21 l)⟩ := hp
  have HP := Lib.hid hp'
  have HD := Lib.hid hd
  have HLL := Lib.hid h
  clear hbytes hck hck' hp hp' hd h
  have hu27 := Try.underlying27
  have hal := al27
  have hbz := bz27
  have HC := Lib.hid hC
  have HY := Lib.hid hby
  have HCAP := Lib.hid hcap
  clear hC hby hcap
  go_enter Try.func4, Try.ntmps4
  go_wp2_with fail
  refine (alive10 _).mono ?_
  rintro e w1 ⟨rfl, hb⟩
  have HW := Lib.hid hb
  clear hb
  go_wp2_with fail
  refine (decode_all A c l w1 (Kd.C_below HC.out HW.out) HCAP.out HY.out).mono ?_
  rintro e w4 ⟨v2, rfl, hR2, hb4⟩
  obtain ⟨A2, c2, hv2⟩ := Kd.R_slice hR2
  subst hv2
  have HW4 := Lib.hid (HW.out.trans (hb4.mono HW.out.size))
  have HR2 := Lib.hid (Kd.R_lower hR2 HW.out.size)
  clear hR2 hb4 HW
  have HR2' := HR2.out
  rw [HP.out] at HR2' ⊢
  rw [HD.out]
  clear HR2
  have HR2 := Lib.hid (show (Kd.int .u8).R 5 w4 w.heap.size (fun _ => True) (.slice A2 (cutd 21 l).length c2) (cutd 21 l) from HR2')
  clear HR2'
  simp only [pcells]
  go_wp2_with (first | ((with_reducible refine gate_ (.store 27 (.tmp 3) (.tmp 12)) rfl ?_); (refine store_row_F rfl rfl 27 (.tmp 3) (.tmp 12) rfl w4.heap.size #[.int .i64 2, .int .u32 (at4 l 1), .int .u32 (at4 l 5), .int .u32 (at4 l 9), .int .u32 (at4 l 13), .int .u32 (at4 l 17), .int .u32 (0), .int .u32 (0), .complex .f64 0 0, .slice A2 (cutd 21 l).length c2] rfl rfl 27 _ (heap_alloc_new w4 _) (by kernel_rfl) rfl (by kernel_rfl) ?_); (intro w5 hb5 hat5); (have hb9 : Below w4.heap.size w4 w5 := hat5.below ((Below.refl w4.heap.size w4).alloc (Nat.le_refl _) _) (Nat.le_refl _)); (have hx0 : w5.cell? ⟨w4.heap.size, 0, none⟩ = some (.int .i64 2) := (blk_cell hb5 0).trans rfl); (have hx1 : w5.cell? ⟨w4.heap.size, 1, none⟩ = some (.int .u32 (at4 l 1)) := (blk_cell hb5 1).trans rfl); (have hx2 : w5.cell? ⟨w4.heap.size, 2, none⟩ = some (.int .u32 (at4 l 5)) := (blk_cell hb5 2).trans rfl); (have hx3 : w5.cell? ⟨w4.heap.size, 3, none⟩ = some (.int .u32 (at4 l 9)) := (blk_cell hb5 3).trans rfl); (have hx4 : w5.cell? ⟨w4.heap.size, 4, none⟩ = some (.int .u32 (at4 l 13)) := (blk_cell hb5 4).trans rfl); (have hx5 : w5.cell? ⟨w4.heap.size, 5, none⟩ = some (.int .u32 (at4 l 17)) := (blk_cell hb5 5).trans rfl); (have hx6 : w5.cell? ⟨w4.heap.size, 6, none⟩ = some (.int .u32 (0)) := (blk_cell hb5 6).trans rfl); (have hx7 : w5.cell? ⟨w4.heap.size, 7, none⟩ = some (.int .u32 (0)) := (blk_cell hb5 7).trans rfl); (have hx8 : w5.cell? ⟨w4.heap.size, 8, none⟩ = some (.complex .f64 0 0) := (blk_cell hb5 8).trans rfl); (have hx9 : w5.cell? ⟨w4.heap.size, 9, none⟩ = some (.slice A2 (cutd 21 l).length c2) := (blk_cell hb5 9).trans rfl); (obtain ⟨A2', c2', he2, _, hC2⟩ := Kd.R_reads (Kd.R_below HR2.out hb9)); (injection he2 with he2 _ _); (subst he2); (have HCB := Lib.hid hC2); (clear hC2); (have HB5 := Lib.hid hb5); (have HW5 := Lib.hid (HW4.out.trans (hb9.mono HW4.out.size))); (have HR5 := Lib.hid (Kd.R_below HR2.out hb9)); (clear hb5 hat5 hb9 HW4 HR2)) | (go_at_call 19; (refine (Ek2.encode_2 (at4 l 1) (at4 l 5) (at4 l 9) (at4 l 13) (at4 l 17) (0) (0) 0 0 A2 _ (cutd 21 l) w5 HCB.out HBL.out HCK.out (by decide) (by decide)).mono ?_); (rintro e w6 ⟨v6, rfl, hR6, hb6⟩); (rw [HBY.out] at hR6); (obtain ⟨A6, c6, hv6, _, hC6⟩ := Kd.R_reads hR6); (subst hv6); (have hb5 := (hb6.block w4.heap.size (blk_lt HB5.out)).trans HB5.out); (have hy0 : w6.cell? ⟨w4.heap.size, 0, none⟩ = some (.int .i64 2) := (blk_cell hb5 0).trans rfl); (have hy1 : w6.cell? ⟨w4.heap.size, 1, none⟩ = some (.int .u32 (at4 l 1)) := (blk_cell hb5 1).trans rfl); (have hy2 : w6.cell? ⟨w4.heap.size, 2, none⟩ = some (.int .u32 (at4 l 5)) := (blk_cell hb5 2).trans rfl); (have hy3 : w6.cell? ⟨w4.heap.size, 3, none⟩ = some (.int .u32 (at4 l 9)) := (blk_cell hb5 3).trans rfl); (have hy4 : w6.cell? ⟨w4.heap.size, 4, none⟩ = some (.int .u32 (at4 l 13)) := (blk_cell hb5 4).trans rfl); (have hy5 : w6.cell? ⟨w4.heap.size, 5, none⟩ = some (.int .u32 (at4 l 17)) := (blk_cell hb5 5).trans rfl); (have hy6 : w6.cell? ⟨w4.heap.size, 6, none⟩ = some (.int .u32 (0)) := (blk_cell hb5 6).trans rfl); (have hy7 : w6.cell? ⟨w4.heap.size, 7, none⟩ = some (.int .u32 (0)) := (blk_cell hb5 7).trans rfl); (have hy8 : w6.cell? ⟨w4.heap.size, 8, none⟩ = some (.complex .f64 0 0) := (blk_cell hb5 8).trans rfl); (have hy9 : w6.cell? ⟨w4.heap.size, 9, none⟩ = some (.slice A2 (cutd 21 l).length c2) := (blk_cell hb5 9).trans rfl); (have HW6 := Lib.hid (HW5.out.trans (hb6.mono HW5.out.size))); (have hk1 := Kd.C_string (P := Try.prog) (c := c) Try.underlying22 Try.underlying5 Try.underlying9 (Kd.C_below HC.out HW6.out)); (have hk2 := Kd.C_string (P := Try.prog) (c := c6) Try.underlying22 Try.underlying5 Try.underlying9 hC6); (clear hb6 hb5 hC6 hR6)) | (go_at_call 20; (refine (check_any (2) (at4 l 1) (at4 l 5) (at4 l 9) (at4 l 13) (at4 l 17) (0) (0) 0 0 A2 (cutd 21 l).length _ w6 (by decide) (by decide)).mono ?_); (rintro e w8 ⟨rfl, hb8⟩); (rw [HCK.out]); (have HW8 := Lib.hid hb8); (clear hb8)))
  go_ret
  exact ⟨ret_bool (by simp), HW6.out.trans (HW8.out.mono HW6.out.size)⟩
set_option maxRecDepth 100000 in
set_option maxHeartbeats 4000000 in
theorem po_3 (A : Option Addr) (c : Nat) (l : List Int) (w : World) (hC : Kd.C (Kd.int .u8) w A l.length l) (hcap : l.length ≤ c) (hby : bytesB l) (hk : rd l 0 = 3) (h : l.length = 17) (hd : decC l = 0) (hp : decP l = pkt3 l) (hck : (pkt3 l).code = 0) : Calls Try.prog 4 #[.slice A l.length c] w fun e w' => e = .returned (.bool true) ∧ Below w.heap.size w w' := by
  have hbytes := bytes3 l hby hk h
  have HBY := Lib.hid hbytes
  have hck' : checkP (3) (at4 l 1) (at4 l 5) (at4 l 9) (0) (at4 l 13) (0) (0) 0 0 ([] : List Int).length = 0 := hck
  have HCK := Lib.hid hck'
  have HZ := Lib.hid (show True from trivial)
  have HBL := Lib.hid (show ([] : List Int).length ≤ 20000 from by simp)
  have hp' : decP l = ⟨3, at4 l 1, at4 l 5, at4 l 9, 0, at4 l 13, 0, 0, 0, 0, ([] : List Int)⟩ := hp
  have HP := Lib.hid hp'
  have HD := Lib.hid hd
  have HLL := Lib.hid h
  clear hbytes hck hck' hp hp' hd h
  have hu27 := Try.underlying27
  have hal := al27
  have hbz := bz27
  have HC := Lib.hid hC
  have HY := Lib.hid hby
  have HCAP := Lib.hid hcap
  clear hC hby hcap
  go_enter Try.func4, Try.ntmps4
  go_wp2_with fail
  refine (alive10 _).mono ?_
  rintro e w1 ⟨rfl, hb⟩
  have HW := Lib.hid hb
  clear hb
  go_wp2_with fail
  refine (decode_all A c l w1 (Kd.C_below HC.out HW.out) HCAP.out HY.out).mono ?_
  rintro e w4 ⟨v2, rfl, hR2, hb4⟩
  obtain ⟨A2, c2, hv2⟩ := Kd.R_slice hR2
  subst hv2
  have HW4 := Lib.hid (HW.out.trans (hb4.mono HW.out.size))
  have HR2 := Lib.hid (Kd.R_lower hR2 HW.out.size)
  clear hR2 hb4 HW
  have HR2' := HR2.out
  rw [HP.out] at HR2' ⊢
  rw [HD.out]
  clear HR2
  have HR2 := Lib.hid (show (Kd.int .u8).R 5 w4 w.heap.size (fun _ => True) (.slice A2 ([] : List Int).length c2) ([] : List Int) from HR2')
  clear HR2'
  simp only [pcells]
  go_wp2_with (first | ((with_reducible refine gate_ (.store 27 (.tmp 3) (.tmp 12)) rfl ?_); (refine store_row_F rfl rfl 27 (.tmp 3) (.tmp 12) rfl w4.heap.size #[.int .i64 3, .int .u32 (at4 l 1), .int .u32 (at4 l 5), .int .u32 (at4 l 9), .int .u32 (0), .int .u32 (at4 l 13), .int .u32 (0), .int .u32 (0), .complex .f64 0 0, .slice A2 ([] : List Int).length c2] rfl rfl 27 _ (heap_alloc_new w4 _) (by kernel_rfl) rfl (by kernel_rfl) ?_); (intro w5 hb5 hat5); (have hb9 : Below w4.heap.size w4 w5 := hat5.below ((Below.refl w4.heap.size w4).alloc (Nat.le_refl _) _) (Nat.le_refl _)); (have hx0 : w5.cell? ⟨w4.heap.size, 0, none⟩ = some (.int .i64 3) := (blk_cell hb5 0).trans rfl); (have hx1 : w5.cell? ⟨w4.heap.size, 1, none⟩ = some (.int .u32 (at4 l 1)) := (blk_cell hb5 1).trans rfl); (have hx2 : w5.cell? ⟨w4.heap.size, 2, none⟩ = some (.int .u32 (at4 l 5)) := (blk_cell hb5 2).trans rfl); (have hx3 : w5.cell? ⟨w4.heap.size, 3, none⟩ = some (.int .u32 (at4 l 9)) := (blk_cell hb5 3).trans rfl); (have hx4 : w5.cell? ⟨w4.heap.size, 4, none⟩ = some (.int .u32 (0)) := (blk_cell hb5 4).trans rfl); (have hx5 : w5.cell? ⟨w4.heap.size, 5, none⟩ = some (.int .u32 (at4 l 13)) := (blk_cell hb5 5).trans rfl); (have hx6 : w5.cell? ⟨w4.heap.size, 6, none⟩ = some (.int .u32 (0)) := (blk_cell hb5 6).trans rfl); (have hx7 : w5.cell? ⟨w4.heap.size, 7, none⟩ = some (.int .u32 (0)) := (blk_cell hb5 7).trans rfl); (have hx8 : w5.cell? ⟨w4.heap.size, 8, none⟩ = some (.complex .f64 0 0) := (blk_cell hb5 8).trans rfl); (have hx9 : w5.cell? ⟨w4.heap.size, 9, none⟩ = some (.slice A2 ([] : List Int).length c2) := (blk_cell hb5 9).trans rfl); (obtain ⟨A2', c2', he2, _, hC2⟩ := Kd.R_reads (Kd.R_below HR2.out hb9)); (injection he2 with he2 _ _); (subst he2); (have HCB := Lib.hid hC2); (clear hC2); (have HB5 := Lib.hid hb5); (have HW5 := Lib.hid (HW4.out.trans (hb9.mono HW4.out.size))); (have HR5 := Lib.hid (Kd.R_below HR2.out hb9)); (clear hb5 hat5 hb9 HW4 HR2)) | (go_at_call 19; (refine (Ek3.encode_3 (at4 l 1) (at4 l 5) (at4 l 9) (0) (at4 l 13) (0) (0) 0 0 A2 _ ([] : List Int) w5 HCB.out HBL.out HCK.out (by decide) (by decide)).mono ?_); (rintro e w6 ⟨v6, rfl, hR6, hb6⟩); (rw [HBY.out] at hR6); (obtain ⟨A6, c6, hv6, _, hC6⟩ := Kd.R_reads hR6); (subst hv6); (have hb5 := (hb6.block w4.heap.size (blk_lt HB5.out)).trans HB5.out); (have hy0 : w6.cell? ⟨w4.heap.size, 0, none⟩ = some (.int .i64 3) := (blk_cell hb5 0).trans rfl); (have hy1 : w6.cell? ⟨w4.heap.size, 1, none⟩ = some (.int .u32 (at4 l 1)) := (blk_cell hb5 1).trans rfl); (have hy2 : w6.cell? ⟨w4.heap.size, 2, none⟩ = some (.int .u32 (at4 l 5)) := (blk_cell hb5 2).trans rfl); (have hy3 : w6.cell? ⟨w4.heap.size, 3, none⟩ = some (.int .u32 (at4 l 9)) := (blk_cell hb5 3).trans rfl); (have hy4 : w6.cell? ⟨w4.heap.size, 4, none⟩ = some (.int .u32 (0)) := (blk_cell hb5 4).trans rfl); (have hy5 : w6.cell? ⟨w4.heap.size, 5, none⟩ = some (.int .u32 (at4 l 13)) := (blk_cell hb5 5).trans rfl); (have hy6 : w6.cell? ⟨w4.heap.size, 6, none⟩ = some (.int .u32 (0)) := (blk_cell hb5 6).trans rfl); (have hy7 : w6.cell? ⟨w4.heap.size, 7, none⟩ = some (.int .u32 (0)) := (blk_cell hb5 7).trans rfl); (have hy8 : w6.cell? ⟨w4.heap.size, 8, none⟩ = some (.complex .f64 0 0) := (blk_cell hb5 8).trans rfl); (have hy9 : w6.cell? ⟨w4.heap.size, 9, none⟩ = some (.slice A2 ([] : List Int).length c2) := (blk_cell hb5 9).trans rfl); (have HW6 := Lib.hid (HW5.out.trans (hb6.mono HW5.out.size))); (have hk1 := Kd.C_string (P := Try.prog) (c := c) Try.underlying22 Try.underlying5 Try.underlying9 (Kd.C_below HC.out HW6.out)); (have hk2 := Kd.C_string (P := Try.prog) (c := c6) Try.underlying22 Try.underlying5 Try.underlying9 hC6); (clear hb6 hb5 hC6 hR6)) | (go_at_call 20; (refine (check_any (3) (at4 l 1) (at4 l 5) (at4 l 9) (0) (at4 l 13) (0) (0) 0 0 A2 ([] : List Int).length _ w6 (by decide) (by decide)).mono ?_); (rintro e w8 ⟨rfl, hb8⟩); (rw [HCK.out]); (have HW8 := Lib.hid hb8); (clear hb8)))
  go_ret
  exact ⟨ret_bool (by simp), HW6.out.trans (HW8.out.mono HW6.out.size)⟩
set_option maxRecDepth 100000 in
set_option maxHeartbeats 4000000 in
theorem po_4 (A : Option Addr) (c : Nat) (l : List Int) (w : World) (hC : Kd.C (Kd.int .u8) w A l.length l) (hcap : l.length ≤ c) (hby : bytesB l) (hk : rd l 0 = 4) (h : l.length = 41) (hd : decC l = 0) (hp : decP l = pkt4 l) (hck : (pkt4 l).code = 0) : Calls Try.prog 4 #[.slice A l.length c] w fun e w' => e = .returned (.bool true) ∧ Below w.heap.size w w' := by
  have hbytes := bytes4 l hby hk h
  have HBY := Lib.hid hbytes
  have hck' : checkP (4) (at4 l 1) (at4 l 5) (at4 l 9) (0) (at4 l 13) (at4 l 17) (at4 l 21) (at8 l 25) (at8 l 33) ([] : List Int).length = 0 := hck
  have HCK := Lib.hid hck'
  have HZ := Lib.hid (show at8 l 25 < 18446744073709551616 ∧ at8 l 33 < 18446744073709551616 from ⟨big_lt _ ((hby.drop 25).take 8), big_lt _ ((hby.drop 33).take 8)⟩)
  have HBL := Lib.hid (show ([] : List Int).length ≤ 20000 from by simp)
  have hp' : decP l = ⟨4, at4 l 1, at4 l 5, at4 l 9, 0, at4 l 13, at4 l 17, at4 l 21, (at8 l 25), (at8 l 33), ([] : List Int)⟩ := hp
  have HP := Lib.hid hp'
  have HD := Lib.hid hd
  have HLL := Lib.hid h
  clear hbytes hck hck' hp hp' hd h
  have hu27 := Try.underlying27
  have hal := al27
  have hbz := bz27
  have HC := Lib.hid hC
  have HY := Lib.hid hby
  have HCAP := Lib.hid hcap
  clear hC hby hcap
  go_enter Try.func4, Try.ntmps4
  go_wp2_with fail
  refine (alive10 _).mono ?_
  rintro e w1 ⟨rfl, hb⟩
  have HW := Lib.hid hb
  clear hb
  go_wp2_with fail
  refine (decode_all A c l w1 (Kd.C_below HC.out HW.out) HCAP.out HY.out).mono ?_
  rintro e w4 ⟨v2, rfl, hR2, hb4⟩
  obtain ⟨A2, c2, hv2⟩ := Kd.R_slice hR2
  subst hv2
  have HW4 := Lib.hid (HW.out.trans (hb4.mono HW.out.size))
  have HR2 := Lib.hid (Kd.R_lower hR2 HW.out.size)
  clear hR2 hb4 HW
  have HR2' := HR2.out
  rw [HP.out] at HR2' ⊢
  rw [HD.out]
  clear HR2
  have HR2 := Lib.hid (show (Kd.int .u8).R 5 w4 w.heap.size (fun _ => True) (.slice A2 ([] : List Int).length c2) ([] : List Int) from HR2')
  clear HR2'
  simp only [pcells]
  go_wp2_with (first | ((with_reducible refine gate_ (.store 27 (.tmp 3) (.tmp 12)) rfl ?_); (refine store_row_F rfl rfl 27 (.tmp 3) (.tmp 12) rfl w4.heap.size #[.int .i64 4, .int .u32 (at4 l 1), .int .u32 (at4 l 5), .int .u32 (at4 l 9), .int .u32 (0), .int .u32 (at4 l 13), .int .u32 (at4 l 17), .int .u32 (at4 l 21), .complex .f64 (at8 l 25) (at8 l 33), .slice A2 ([] : List Int).length c2] rfl rfl 27 _ (heap_alloc_new w4 _) (by kernel_rfl) rfl (by kernel_rfl) ?_); (intro w5 hb5 hat5); (have hb9 : Below w4.heap.size w4 w5 := hat5.below ((Below.refl w4.heap.size w4).alloc (Nat.le_refl _) _) (Nat.le_refl _)); (have hx0 : w5.cell? ⟨w4.heap.size, 0, none⟩ = some (.int .i64 4) := (blk_cell hb5 0).trans rfl); (have hx1 : w5.cell? ⟨w4.heap.size, 1, none⟩ = some (.int .u32 (at4 l 1)) := (blk_cell hb5 1).trans rfl); (have hx2 : w5.cell? ⟨w4.heap.size, 2, none⟩ = some (.int .u32 (at4 l 5)) := (blk_cell hb5 2).trans rfl); (have hx3 : w5.cell? ⟨w4.heap.size, 3, none⟩ = some (.int .u32 (at4 l 9)) := (blk_cell hb5 3).trans rfl); (have hx4 : w5.cell? ⟨w4.heap.size, 4, none⟩ = some (.int .u32 (0)) := (blk_cell hb5 4).trans rfl); (have hx5 : w5.cell? ⟨w4.heap.size, 5, none⟩ = some (.int .u32 (at4 l 13)) := (blk_cell hb5 5).trans rfl); (have hx6 : w5.cell? ⟨w4.heap.size, 6, none⟩ = some (.int .u32 (at4 l 17)) := (blk_cell hb5 6).trans rfl); (have hx7 : w5.cell? ⟨w4.heap.size, 7, none⟩ = some (.int .u32 (at4 l 21)) := (blk_cell hb5 7).trans rfl); (have hx8 : w5.cell? ⟨w4.heap.size, 8, none⟩ = some (.complex .f64 (at8 l 25) (at8 l 33)) := (blk_cell hb5 8).trans rfl); (have hx9 : w5.cell? ⟨w4.heap.size, 9, none⟩ = some (.slice A2 ([] : List Int).length c2) := (blk_cell hb5 9).trans rfl); (obtain ⟨A2', c2', he2, _, hC2⟩ := Kd.R_reads (Kd.R_below HR2.out hb9)); (injection he2 with he2 _ _); (subst he2); (have HCB := Lib.hid hC2); (clear hC2); (have HB5 := Lib.hid hb5); (have HW5 := Lib.hid (HW4.out.trans (hb9.mono HW4.out.size))); (have HR5 := Lib.hid (Kd.R_below HR2.out hb9)); (clear hb5 hat5 hb9 HW4 HR2)) | (go_at_call 19; (refine (Ek4.encode_4 (at4 l 1) (at4 l 5) (at4 l 9) (0) (at4 l 13) (at4 l 17) (at4 l 21) (at8 l 25) (at8 l 33) A2 _ ([] : List Int) w5 HCB.out HBL.out HCK.out HZ.out.1 HZ.out.2).mono ?_); (rintro e w6 ⟨v6, rfl, hR6, hb6⟩); (rw [HBY.out] at hR6); (obtain ⟨A6, c6, hv6, _, hC6⟩ := Kd.R_reads hR6); (subst hv6); (have hb5 := (hb6.block w4.heap.size (blk_lt HB5.out)).trans HB5.out); (have hy0 : w6.cell? ⟨w4.heap.size, 0, none⟩ = some (.int .i64 4) := (blk_cell hb5 0).trans rfl); (have hy1 : w6.cell? ⟨w4.heap.size, 1, none⟩ = some (.int .u32 (at4 l 1)) := (blk_cell hb5 1).trans rfl); (have hy2 : w6.cell? ⟨w4.heap.size, 2, none⟩ = some (.int .u32 (at4 l 5)) := (blk_cell hb5 2).trans rfl); (have hy3 : w6.cell? ⟨w4.heap.size, 3, none⟩ = some (.int .u32 (at4 l 9)) := (blk_cell hb5 3).trans rfl); (have hy4 : w6.cell? ⟨w4.heap.size, 4, none⟩ = some (.int .u32 (0)) := (blk_cell hb5 4).trans rfl); (have hy5 : w6.cell? ⟨w4.heap.size, 5, none⟩ = some (.int .u32 (at4 l 13)) := (blk_cell hb5 5).trans rfl); (have hy6 : w6.cell? ⟨w4.heap.size, 6, none⟩ = some (.int .u32 (at4 l 17)) := (blk_cell hb5 6).trans rfl); (have hy7 : w6.cell? ⟨w4.heap.size, 7, none⟩ = some (.int .u32 (at4 l 21)) := (blk_cell hb5 7).trans rfl); (have hy8 : w6.cell? ⟨w4.heap.size, 8, none⟩ = some (.complex .f64 (at8 l 25) (at8 l 33)) := (blk_cell hb5 8).trans rfl); (have hy9 : w6.cell? ⟨w4.heap.size, 9, none⟩ = some (.slice A2 ([] : List Int).length c2) := (blk_cell hb5 9).trans rfl); (have HW6 := Lib.hid (HW5.out.trans (hb6.mono HW5.out.size))); (have hk1 := Kd.C_string (P := Try.prog) (c := c) Try.underlying22 Try.underlying5 Try.underlying9 (Kd.C_below HC.out HW6.out)); (have hk2 := Kd.C_string (P := Try.prog) (c := c6) Try.underlying22 Try.underlying5 Try.underlying9 hC6); (clear hb6 hb5 hC6 hR6)) | (go_at_call 20; (refine (check_any (4) (at4 l 1) (at4 l 5) (at4 l 9) (0) (at4 l 13) (at4 l 17) (at4 l 21) (at8 l 25) (at8 l 33) A2 ([] : List Int).length _ w6 HZ.out.1 HZ.out.2).mono ?_); (rintro e w8 ⟨rfl, hb8⟩); (rw [HCK.out]); (have HW8 := Lib.hid hb8); (clear hb8)))
  go_ret
  exact ⟨ret_bool (by simp), HW6.out.trans (HW8.out.mono HW6.out.size)⟩
theorem po_walk (A : Option Addr) (c : Nat) (l : List Int) (w : World) (hC : Kd.C (Kd.int .u8) w A l.length l) (hcap : l.length ≤ c) (hby : bytesB l) : Calls Try.prog 4 #[.slice A l.length c] w fun e w' => e = .returned (.bool true) ∧ Below w.heap.size w w' := by
  by_cases hd : decC l = 0
  · have hd0 := hd
    rw [decC] at hd
    split at hd
    · cases hd
    split at hd
    · cases hd
    split at hd
    · cases hd
    split at hd
    · cases hd
    rename_i g1 g2 g3 g4
    have hq : decP l = pktOf l := by rw [decP, if_pos hd0]
    have hkk : rd l 0 = 1 ∨ rd l 0 = 2 ∨ rd l 0 = 3 ∨ rd l 0 = 4 := by omega
    rcases hkk with hk | hk | hk | hk
    · have hp : pktOf l = pkt1 l := by rw [pktOf, if_pos hk]
      rw [hk] at g3 g4
      rw [hp] at hd hq
      have e1 : least 1 = 14 := rfl
      have e2 : most 1 = 14 := rfl
      exact po_1 A c l w hC hcap hby hk (by omega) hd0 hq hd
    · have hp : pktOf l = pkt2 l := by rw [pktOf, if_neg (by rw [hk]; decide), if_pos hk]
      rw [hk] at g3 g4
      rw [hp] at hd hq
      have e1 : least 2 = 22 := rfl
      have e2 : most 2 = 1021 := rfl
      exact po_2 A c l w hC hcap hby hk (by omega) (by omega) hd0 hq hd
    · have hp : pktOf l = pkt3 l := by rw [pktOf, if_neg (by rw [hk]; decide), if_neg (by rw [hk]; decide), if_pos hk]
      rw [hk] at g3 g4
      rw [hp] at hd hq
      have e1 : least 3 = 17 := rfl
      have e2 : most 3 = 17 := rfl
      exact po_3 A c l w hC hcap hby hk (by omega) hd0 hq hd
    · have hp : pktOf l = pkt4 l := by rw [pktOf, if_neg (by rw [hk]; decide), if_neg (by rw [hk]; decide), if_neg (by rw [hk]; decide)]
      rw [hk] at g3 g4
      rw [hp] at hd hq
      have e1 : least 4 = 41 := rfl
      have e2 : most 4 = 41 := rfl
      exact po_4 A c l w hC hcap hby hk (by omega) hd0 hq hd
  · exact po_bad A c l w hC hcap hby hd
end Go.Proofs.Ytnkkgofpifhoeaa.Pk
