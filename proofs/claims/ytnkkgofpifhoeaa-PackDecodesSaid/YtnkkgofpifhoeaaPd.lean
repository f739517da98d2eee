/- The law PackDecodes, walked: it answers true at all bytes. -/
import Derived.Test.YtnkkgofpifhoeaaLaw10
namespace Go.Proofs.Ytnkkgofpifhoeaa.Pk
open Go.RowKit Go.Proofs.Ytnkkgofpifhoeaa.Flt Go.Proofs.Ytnkkgofpifhoeaa.Num Go.Proofs.Ytnkkgofpifhoeaa.Base Go.Proofs.YtnkkgofpifhoeaaW.PrintWords Go.Proofs.YtnkkgofpifhoeaaW.PrintLast Go.Proofs.Ytnkkgofpifhoeaa.Steps
set_option linter.unusedSimpArgs false
set_option linter.unusedVariables false
set_option maxRecDepth 100000 in
set_option maxHeartbeats 4000000 in
theorem pd_long (A : Option Addr) (n c : Nat) (w : World) (hl : 16384 < n) : Calls Try.prog 3 #[.slice A n c] w fun e w' => e = .returned (.bool true) ∧ Below w.heap.size w w' := by
  go_enter Try.func3, Try.ntmps3
  go_wp2_with (go_at_call 15; refine (alive10 _).mono ?_; rintro e w1 ⟨rfl, hb⟩; have HB := Lib.hid hb; clear hb)
  go_ret
  exact ⟨rfl, HB.out⟩
set_option maxRecDepth 100000 in
set_option maxHeartbeats 4000000 in
theorem pd_short (A : Option Addr) (c : Nat) (l : List Int) (w : World) (hC : Kd.C (Kd.int .u8) w A l.length l) (hcap : l.length ≤ c) (hby : bytesB l) (hl : l.length ≤ 16384) : Calls Try.prog 3 #[.slice A l.length c] w fun e w' => e = .returned (.bool true) ∧ Below w.heap.size w w' := by
  have hu27 := Try.underlying27
  have hal := al27
  have HC := Lib.hid hC
  have HY := Lib.hid hby
  have HCAP := Lib.hid hcap
  have HF := Lib.hid (decP_fin l)
  clear hC hby hcap
  go_enter Try.func3, Try.ntmps3
  go_wp2_with fail
  refine (alive10 _).mono ?_
  rintro e w1 ⟨rfl, hb⟩
  have HW := Lib.hid hb
  clear hb
  go_wp2_with (first | ((with_reducible refine gate_dst (N := 14) rfl ?_); (refine Kd.R_lit (Kd.int .u8) (w0 := w1) w1.heap.size 5 ?hg (N := 14) ?hd (xs := ([] : List Int)) (inner := []) (ok := fun _ => True) (okp := fun _ => True) ?hr ?hp (fun _ hk => hk) trivial (Below.refl _ _) (Nat.le_refl _) (by simp) ?_); (case hd => rfl); (case hg => rfl); (case hr => first | (go_simp; done) | (go_simp; rfl)); (case hp => exact (Reps.none _ _)); (intro v0 w2 hR0 hb _ _); (have HR0 := Lib.hid (Kd.R_lower hR0 HW.out.size)); (have HW2 := Lib.hid (HW.out.trans (hb.mono HW.out.size))); (clear hR0 hb HW)) | ((with_reducible refine gate_dst (N := 16) rfl ?_); (refine Kd.R_append_row (h1 := fun _ => rfl) (Value.int .u8) 0 (w0 := w) w.heap.size rfl (.tmp 14) (.tmp 15) 22 5 (.int .u8 0) 1 rfl Try.underlying22 info5 rfl (by decide) v0 [] l _ _ _ (fun _ => True) rfl rfl (fun _ _ => trivial) HR0.out (Kd.C_below HC.out HW2.out) HW2.out HW2.out.size (by simp only [List.length_nil]; omega) ?_); (intro v1 w3 hR1 hb _ _); (obtain ⟨A1, c1, hv, hc1, hC1⟩ := Kd.R_reads hR1); (subst hv); (have HR1 := Lib.hid (show (Kd.int .u8).R 5 w3 w.heap.size (fun _ => True) (.slice A1 l.length c1) l from hR1)); (have HC1 := Lib.hid (show Kd.C (Kd.int .u8) w3 A1 l.length l from hC1)); (have HW3 := Lib.hid hb); (have HL1 := Lib.hid (show l.length ≤ c1 from hc1)); (clear hR1 hb hC1 hc1 HR0 HW2)))
  refine (decode_any A1 c1 l w3 HC1.out HL1.out HY.out (by omega)).mono ?_
  rintro e w4 ⟨v2, rfl, hR2, hb4⟩
  obtain ⟨A2, c2, hv2⟩ := Kd.R_slice hR2
  subst hv2
  have HRO := rdecode_any A c l
  have HSH := Lib.hid HRO
  clear HRO
  have HR2 := Lib.hid (Kd.R_mono (ok' := fun k => w3.heap.size ≤ k) (Kd.R_bound hR2) (fun k hk => hk.2.1))
  have HR3 := Lib.hid (Kd.R_below (Kd.R_mono (ok' := fun k => k < w3.heap.size) (Kd.R_bound HR1.out) (fun k hk => hk.2.2.1)) hb4)
  have HW4 := Lib.hid (HW3.out.trans (hb4.mono HW3.out.size))
  have hb3 : w3.heap.size ≤ w4.heap.size := hb4.size
  clear hR2 HR1 HC1 HL1 HW3 hb4
  simp only [pcells]
  have HDP : ∃ p, p = decP l := ⟨_, rfl⟩
  obtain ⟨p, hp⟩ := HDP
  have HDE : ∃ E, E = decC l := ⟨_, rfl⟩
  obtain ⟨E, hE⟩ := HDE
  rw [← hp, ← hE]
  have HP := Lib.hid hp
  have HE := Lib.hid hE
  have HR2' := HR2.out
  rw [← hp] at HR2'
  have HF' := HF.out
  rw [← hp] at HF'
  clear HR2 HF hp hE
  have HR2 := Lib.hid HR2'
  have HF := Lib.hid HF'
  clear HR2' HF'
  have hmono := HW4.out.size
  go_wp2_with (first | ((with_reducible refine gate_ (.store 27 (.tmp 4) (.tmp 20)) rfl ?_); (refine store_row_F rfl rfl 27 (.tmp 4) (.tmp 20) rfl w4.heap.size #[.int .i64 p.kind, .int .u32 p.mine, .int .u32 p.boot, .int .u32 p.yours, .int .u32 p.seq, .int .u32 p.ack, .int .u32 p.stamp, .int .u32 p.echo, .complex .f64 p.zr p.zi, .slice A2 p.body.length c2] rfl rfl 27 _ (heap_alloc_new w4 _) (by kernel_rfl) rfl (by kernel_rfl) ?_); (intro w5 hb5 hat5); (have hb9 : Below w4.heap.size w4 w5 := hat5.below ((Below.refl w4.heap.size w4).alloc (Nat.le_refl _) _) (Nat.le_refl _)); (have HO := Lib.hid (show Over w w3.heap.size w4.heap.size l.length (.slice A1 l.length c1) #[.int .i64 p.kind, .int .u32 p.mine, .int .u32 p.boot, .int .u32 p.yours, .int .u32 p.seq, .int .u32 p.ack, .int .u32 p.stamp, .int .u32 p.echo, .complex .f64 p.zr p.zi, .slice A2 p.body.length c2] (.slice A2 p.body.length c2) p.body w5 from ⟨⟨_, Kd.R_below HR3.out hb9⟩, hb5, Kd.R_below HR2.out hb9, HW4.out.trans (hb9.mono hmono)⟩)); (clear hb5 hat5 hb9 HR3 HR2 HW4)))
  generalize w4.heap.size = g4 at *
  generalize w3.heap.size = B at *
  go_loopw [6] (fun i wr => ∃ k : Nat, k ≤ l.length ∧ i = .int .i64 k ∧ Over w B g4 l.length (.slice A1 l.length c1) #[.int .i64 p.kind, .int .u32 p.mine, .int .u32 p.boot, .int .u32 p.yours, .int .u32 p.seq, .int .u32 p.ack, .int .u32 p.stamp, .int .u32 p.echo, .complex .f64 p.zr p.zi, .slice A2 p.body.length c2] (.slice A2 p.body.length c2) p.body wr) (fun i wr => l.length - (intOf i).toNat)
  case atStart => exact ⟨0, Nat.zero_le _, rfl, HO.out⟩
  case round =>
    obtain ⟨k, hk, rfl, hov⟩ := hrel
    clear HO
    have HOV := Lib.hid hov
    clear hov
    by_cases hlt : k < l.length
    · obtain ⟨g, x, hA, hc, hf, hst⟩ := HOV.out.store k hlt
      subst hA
      have HST := Lib.hid hst
      clear hst
      go_wp2
      go_roundw
      case rel => exact ⟨k + 1, by omega, by go_num, HST.out _⟩
      case measure => simp [intOf]; omega
    · obtain rfl : k = l.length := by omega
      go_wp2_with fail
      refine (HSH.out wr (Kd.C_below HC.out HOV.out.below) HCAP.out HY.out (by omega)).mono ?_
      rintro e w6 ⟨v3, rfl, hR3, hb6⟩
      obtain ⟨A3, c3, hv3⟩ := Kd.R_slice hR3
      subst hv3
      simp only [pcells]
      rw [← HP.out, ← HE.out]
      have hR3' := hR3
      rw [← HP.out] at hR3'
      have HR3 := Lib.hid hR3'
      have HR2 := Lib.hid (Kd.R_below HOV.out.body hb6)
      have HG4 := Lib.hid ((hb6.block g4 (blk_lt HOV.out.blk)).trans HOV.out.blk)
      have HW6 := Lib.hid (HOV.out.below.trans (hb6.mono HOV.out.below.size))
      have hg46 : g4 < w6.heap.size := blk_lt HG4.out
      clear hR3 hR3' hb6 HOV
      go_wp2_with (first | ((with_reducible refine gate_ (.store 27 (.tmp 7) (.tmp 39)) rfl ?_); (refine store_row_F rfl rfl 27 (.tmp 7) (.tmp 39) rfl w6.heap.size #[.int .i64 p.kind, .int .u32 p.mine, .int .u32 p.boot, .int .u32 p.yours, .int .u32 p.seq, .int .u32 p.ack, .int .u32 p.stamp, .int .u32 p.echo, .complex .f64 p.zr p.zi, .slice A3 p.body.length c3] rfl rfl 27 _ (heap_alloc_new w6 _) (by kernel_rfl) rfl (by kernel_rfl) ?_); (intro w7 hb7 hat7); (have hb9 : Below w6.heap.size w6 w7 := hat7.below ((Below.refl w6.heap.size w6).alloc (Nat.le_refl _) _) (Nat.le_refl _)); (have hg4 := (hb9.block g4 (blk_lt HG4.out)).trans HG4.out); (have hx0 : w7.cell? ⟨g4, 0, none⟩ = some (.int .i64 p.kind) := (blk_cell hg4 0).trans rfl); (have hx1 : w7.cell? ⟨g4, 1, none⟩ = some (.int .u32 p.mine) := (blk_cell hg4 1).trans rfl); (have hx2 : w7.cell? ⟨g4, 2, none⟩ = some (.int .u32 p.boot) := (blk_cell hg4 2).trans rfl); (have hx3 : w7.cell? ⟨g4, 3, none⟩ = some (.int .u32 p.yours) := (blk_cell hg4 3).trans rfl); (have hx4 : w7.cell? ⟨g4, 4, none⟩ = some (.int .u32 p.seq) := (blk_cell hg4 4).trans rfl); (have hx5 : w7.cell? ⟨g4, 5, none⟩ = some (.int .u32 p.ack) := (blk_cell hg4 5).trans rfl); (have hx6 : w7.cell? ⟨g4, 6, none⟩ = some (.int .u32 p.stamp) := (blk_cell hg4 6).trans rfl); (have hx7 : w7.cell? ⟨g4, 7, none⟩ = some (.int .u32 p.echo) := (blk_cell hg4 7).trans rfl); (have hx8 : w7.cell? ⟨g4, 8, none⟩ = some (.complex .f64 p.zr p.zi) := (blk_cell hg4 8).trans rfl); (have hx9 : w7.cell? ⟨g4, 9, none⟩ = some (.slice A2 p.body.length c2) := (blk_cell hg4 9).trans rfl); (have hy0 : w7.cell? ⟨w6.heap.size, 0, none⟩ = some (.int .i64 p.kind) := (blk_cell hb7 0).trans rfl); (have hy1 : w7.cell? ⟨w6.heap.size, 1, none⟩ = some (.int .u32 p.mine) := (blk_cell hb7 1).trans rfl); (have hy2 : w7.cell? ⟨w6.heap.size, 2, none⟩ = some (.int .u32 p.boot) := (blk_cell hb7 2).trans rfl); (have hy3 : w7.cell? ⟨w6.heap.size, 3, none⟩ = some (.int .u32 p.yours) := (blk_cell hb7 3).trans rfl); (have hy4 : w7.cell? ⟨w6.heap.size, 4, none⟩ = some (.int .u32 p.seq) := (blk_cell hb7 4).trans rfl); (have hy5 : w7.cell? ⟨w6.heap.size, 5, none⟩ = some (.int .u32 p.ack) := (blk_cell hb7 5).trans rfl); (have hy6 : w7.cell? ⟨w6.heap.size, 6, none⟩ = some (.int .u32 p.stamp) := (blk_cell hb7 6).trans rfl); (have hy7 : w7.cell? ⟨w6.heap.size, 7, none⟩ = some (.int .u32 p.echo) := (blk_cell hb7 7).trans rfl); (have hy8 : w7.cell? ⟨w6.heap.size, 8, none⟩ = some (.complex .f64 p.zr p.zi) := (blk_cell hb7 8).trans rfl); (have hy9 : w7.cell? ⟨w6.heap.size, 9, none⟩ = some (.slice A3 p.body.length c3) := (blk_cell hb7 9).trans rfl); (obtain ⟨A2', c2', he2, _, hC2⟩ := Kd.R_reads (Kd.R_below HR2.out hb9)); (injection he2 with he2 _ _); (subst he2); (obtain ⟨A3', c3', he3, _, hC3⟩ := Kd.R_reads (Kd.R_below HR3.out hb9)); (injection he3 with he3 _ _); (subst he3); (have HC2 := Lib.hid hC2); (have HC3 := Lib.hid hC3); (have HW7 := Lib.hid (HW6.out.trans (hb9.mono HW6.out.size))); (clear hb7 hat7 hb9 hg4 hC2 hC3 HR2 HR3 HG4 HW6)) | (go_at_call 18; (refine (same_yes _ _ _ _ _ _ _ _ _ _ A2 A3 _ _ p.body w7 HF.out.1 HF.out.2 HC2.out HC3.out).mono ?_); (rintro e w8 ⟨rfl, hb8⟩); (have HW8 := Lib.hid hb8); (clear hb8)))
      go_ret
      exact ⟨ret_bool (by simp), HW7.out.trans (HW8.out.mono HW7.out.size)⟩
theorem pd_walk (A : Option Addr) (c : Nat) (l : List Int) (w : World) (hC : Kd.C (Kd.int .u8) w A l.length l) (hcap : l.length ≤ c) (hby : bytesB l) : Calls Try.prog 3 #[.slice A l.length c] w fun e w' => e = .returned (.bool true) ∧ Below w.heap.size w w' := by
  by_cases h : 16384 < l.length
  · exact pd_long A _ c w h
  · exact pd_short A c l w hC hcap hby (by omega)
end Go.Proofs.Ytnkkgofpifhoeaa.Pk
