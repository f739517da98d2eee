/- The law PairEpochs holds: the links of a side of a pair come one behind the other, by boots and tokens that rise, up and down take turns, and nothing is sent or got but in the link that is up, whatever a script does. For every script that can be read; no condition. -/
import Derived.Test.YtnkkgofpifhoeaaPB6
import Derived.Test.YtnkkgofpifhoeaaRows
import Derived.OpenShut
import Derived.ShutString
import Derived.ChangeOld
import Derived.SizedLaws
set_option linter.unusedSimpArgs false
set_option linter.unusedVariables false
section
namespace Go.Proofs.Ytnkkgofpifhoeaa.Pr
open Go.RowKit Go.Proofs.Ytnkkgofpifhoeaa.Base Go.Proofs.Ytnkkgofpifhoeaa.Steps Go.Proofs.Ytnkkgofpifhoeaa.Lk Go.Proofs.Ytnkkgofpifhoeaa.Win Go.Proofs.YtnkkgofpifhoeaaW.PrintWords Go.Proofs.YtnkkgofpifhoeaaW.PrintLast
theorem ent_elem {w : World} {B : Nat} {ok : Nat → Prop} {A : Option Addr} {n c : Nat} {l : List Ent} (h : ent.R 67 w B ok (.slice A n c) l) (i : Nat) (hi : i < n) :
  ∃ g Ab cb, A = some ⟨g, 0, none⟩ ∧ n = l.length ∧ w.rangeAt g (i * 6) (ecells (l.getD i nilE) (.slice Ab (l.getD i nilE).body.length cb)) ∧ (Kd.int .u8).C w Ab (l.getD i nilE).body.length (l.getD i nilE).body := by
 obtain ⟨hn, hnc, hC⟩ := Kd.R_reads' h
 obtain ⟨gx, cap, he, _⟩ := Kd.R_form h (by omega)
 injection he with h1 h2 h3
 subst h1
 obtain ⟨cs, hl, hM, hc, _⟩ := Kd.R_elem h nilE (i : Int) (by omega) (by omega)
 obtain ⟨b, hcs, hRb⟩ := ent_M.1 hM
 obtain ⟨Ab, cb, hbv⟩ := Kd.R_slice hRb
 subst hbv
 subst hcs
 refine ⟨gx, Ab, cb, rfl, hn, fun j u hu => ?_, (Kd.R_reads' hRb).2.2⟩
 have := hc j u hu
 simpa [ent_sz] using this
def LB (wr : World) (gl : Nat) (kb km kp ky : Int) : Prop := ∃ kd bv, wr.heap[gl]? = some (.cells #[.int .i64 kd, .int .u32 kb, .int .u32 km, .int .u32 kp, .int .u32 ky, bv] 67 (0, 0))
set_option maxRecDepth 100000 in
set_option maxHeartbeats 4000000 in
theorem pe_walk (w : World) (A : Option Addr) (n c : Nat) (sc : List Act) (hC : act.C w A n sc) : Calls Try.prog 8 #[.slice A n c] w fun e w' => e = .returned (.bool true) ∧ Below w.heap.size w w' := by
 have H := Lib.hid hC
 clear hC
 go_enter Try.func8, Try.ntmps8
 go_wp2_with (first | (go_at_call 35; (have hc := alive12 w); (with_reducible refine hc.mono ?_); clear hc; rintro e w1 ⟨rfl, hb1⟩; (have HB1 := Lib.hid hb1); clear hb1))
 have hf1 := fits_w w1 A n c sc (act_C_below H.out HB1.out)
 have HF := Lib.hid hf1
 clear hf1
 go_wp2_with (go_at_call 36; (have hc := HF.out); (with_reducible refine hc.mono ?_); clear hc; rintro e w9 ⟨⟨bf, rfl, hbf⟩, rfl⟩; (have HBF := Lib.hid hbf); (clear hbf); (cases bf))
 any_goals (go_ret; exact ⟨rfl, HB1.out⟩)
 have hfit := HBF.out (by first | rfl | trivial)
 have hrun := run_w w w1 HB1.out A n c sc H.out hfit
 have HRUN := Lib.hid hrun
 have hinv := run_inv sc new_inv (by have := hfit.1; omega)
 have HINV := Lib.hid hinv
 have HLN := Lib.hid hfit.1
 clear hrun hinv hfit HBF
 go_wp2_with (go_at_call 37; (have hc := HRUN.out); (with_reducible refine hc.mono ?_); clear hc; rintro e w2 ⟨gp, rfl, hP, hgp⟩; (have HP0 := Lib.hid hP); clear hP hgp)
 generalize runX newX sc = X at *
 go_loopg [4] 2 (fun m v wr => ∃ s : Nat, m = 2 - s ∧ s ≤ 2 ∧ v = .int .i64 (s : Int) ∧ PP w gp X wr)
 case atStart => exact ⟨0, rfl, by decide, rfl, HP0.out⟩
 case round =>
  obtain ⟨wo, rfl⟩ : ∃ wo : World, wo = wr := ⟨_, rfl⟩
  obtain ⟨s, hm, hsn, rfl, hP⟩ := hrel
  have HM := Lib.hid hm
  have HS := Lib.hid hsn
  have HP := Lib.hid hP
  clear hm hsn hP
  by_cases hlt : s < 2
  ·have hd : decide ((s : Int) < 2) = true := by simp; omega
   have HLT := Lib.hid hlt
   obtain ⟨Kf, hchk, hkf⟩ := epochs_log HINV.out s hlt
   have HKF := Lib.hid hkf
   clear hkf
   have HCHK := Lib.hid hchk
   have hlog := log_pp HP.out HINV.out (by have := HLN.out; omega) s hlt
   have HLOG := Lib.hid hlog
   have hph := phase_pp HP.out s hlt
   have HNL9 := Lib.hid (show (X.sd s).log.length ≤ 1000000 from by have h1 := (HINV.out.p.side s hlt).len; have := HLN.out; omega)
   clear hchk hlog
   generalize hll : (X.sd s).log = l at *
   generalize hpp : (X.sd s).end_.phase = ph at *
   have HPH := Lib.hid hpp
   clear hll hpp hph
   go_wp2_with (go_at_call 38; (have hc := HLOG.out); (with_reducible refine hc.mono ?_); clear hc; rintro e w3 ⟨v, rfl, hR, hb3⟩; (obtain ⟨A3, c3, hv⟩ := Kd.R_slice hR); (subst hv); (have HR3 := Lib.hid hR); (have HP3 := Lib.hid (HP.out.sub hb3)); (have HZ3 := Lib.hid (heap_alloc_new w3 (.cells #[.int .i64 0, .int .u32 0, .int .u32 0, .int .u32 0, .int .u32 0, .slice none 0 0] 67))); (clear hR hb3))
   generalize hnl : l.length = nl at *
   have HNL := Lib.hid hnl
   clear hnl
   have HA3 := Lib.hid (show Below w3.heap.size w3 (w3.alloc (.cells #[.int .i64 0, .int .u32 1, .int .u32 0, .int .u32 0, .int .u32 0, .slice none 0 0] 67)) from (Below.refl _ _).alloc (Nat.le_refl _) _)
   have HB3 := Lib.hid (heap_alloc_new w3 (.cells #[.int .i64 0, .int .u32 1, .int .u32 0, .int .u32 0, .int .u32 0, .slice none 0 0] 67))
   go_loopg [6, 8] nl (fun m up v wr => ∃ (i : Nat) (b : Bool) (kb km kp ky : Int), m = nl - i ∧ i ≤ nl ∧ up = .bool b ∧ v = .int .i64 (i : Int) ∧ chk (l.take i) = some (b, (kb, km, kp, ky)) ∧ Below w3.heap.size w3 wr ∧ LB wr w3.heap.size kb km kp ky)
   case atStart => exact ⟨0, false, 1, 0, 0, 0, rfl, Nat.zero_le _, rfl, rfl, rfl, HA3.out, 0, .slice none 0 0, HB3.out⟩
   case round =>
    obtain ⟨i, b, kb, km, kp, ky, hm, hin, rfl, rfl, hck, hbq, kd, bv, hlb⟩ := hrel
    have HMQ := Lib.hid hm
    have HIQ := Lib.hid hin
    have HCK := Lib.hid hck
    have HBQ := Lib.hid hbq
    have HLB := Lib.hid hlb
    clear hm hin hck hbq hlb
    have hnl9 := HNL9.out
    by_cases hli : i < nl
    ·have hd9 : decide ((i : Int) < (nl : Int)) = true := by simp [hli]
     obtain ⟨g, Ab, cb, hA, -, hrg, -⟩ := ent_elem HR3.out i hli
     subst hA
     have HRG := Lib.hid (show wr.rangeAt g (i * 6) (ecells (l.getD i nilE) (.slice Ab (l.getD i nilE).body.length cb)) from fun j v hv => pw_cell_below HBQ.out (hrg j v hv))
     clear hrg
     obtain ⟨b', ⟨kb', km', kp', ky'⟩, hck'⟩ := chk_take HCHK.out (i + 1)
     have hnx := hck'
     rw [chk_next (by rw [HNL.out]; exact hli), HCK.out] at hnx
     have HCK' := Lib.hid hck'
     have hcs := chkS_some hnx
     clear hck' hnx
     generalize hx : l.getD i nilE = x at *
     clear hx
     have HNW := Lib.hid (heap_alloc_new wr (.cells #[.int .i64 x.kind, .int .u32 x.boot, .int .u32 x.mine, .int .u32 x.peer, .int .u32 x.yours, .slice Ab x.body.length cb] 67))
     have HBW := Lib.hid (show Below wr.heap.size wr (wr.alloc (.cells #[.int .i64 x.kind, .int .u32 x.boot, .int .u32 x.mine, .int .u32 x.peer, .int .u32 x.yours, .slice Ab x.body.length cb] 67)) from (Below.refl _ _).alloc (Nat.le_refl _) _)
     have HLW := Lib.hid ((HBW.out.block w3.heap.size (blk_lt HLB.out)).trans HLB.out)
     have hw1 : (wr.alloc (.cells #[.int .i64 x.kind, .int .u32 x.boot, .int .u32 x.mine, .int .u32 x.peer, .int .u32 x.yours, .slice Ab x.body.length cb] 67)).cell? ⟨w3.heap.size, 1, none⟩ = some (.int .u32 kb) := (blk_cell HLW.out 1).trans rfl
     have hw2 : (wr.alloc (.cells #[.int .i64 x.kind, .int .u32 x.boot, .int .u32 x.mine, .int .u32 x.peer, .int .u32 x.yours, .slice Ab x.body.length cb] 67)).cell? ⟨w3.heap.size, 2, none⟩ = some (.int .u32 km) := (blk_cell HLW.out 2).trans rfl
     have hw3 : (wr.alloc (.cells #[.int .i64 x.kind, .int .u32 x.boot, .int .u32 x.mine, .int .u32 x.peer, .int .u32 x.yours, .slice Ab x.body.length cb] 67)).cell? ⟨w3.heap.size, 3, none⟩ = some (.int .u32 kp) := (blk_cell HLW.out 3).trans rfl
     have hw4 : (wr.alloc (.cells #[.int .i64 x.kind, .int .u32 x.boot, .int .u32 x.mine, .int .u32 x.peer, .int .u32 x.yours, .slice Ab x.body.length cb] 67)).cell? ⟨w3.heap.size, 4, none⟩ = some (.int .u32 ky) := (blk_cell HLW.out 4).trans rfl
     have HB9 := Lib.hid (HBQ.out.trans (HBW.out.mono HBQ.out.size))
     rcases hcs with ⟨h5, hxb, hb', hK'⟩ | ⟨h5, h1, hb0, hxb, hxm, hxp, hxy, hxp2, hxy2, hb', hK'⟩ | ⟨h5, h1, hb0, hxb, hxm, hxp, hxy, hb', hK'⟩
     ·have HK' := Lib.hid hK'
      have hk5 : (x.kind == 5) = true := by simp [h5]
      have hq : (x.boot != (kb + 1) % 4294967296) = false := by have e1 := HKF.out; have e2 := chk_mono HCHK.out HCK'.out; have e3 : 1 ≤ kb := (chk_low HCK.out).1; rw [hK'] at e2; have e4 : x.boot ≤ Kf.1 := e2; rw [hxb, show (kb + 1) % 4294967296 = kb + 1 by omega]; simp
      subst hb'
      clear hK' h5 hxb
      go_wp2_with (first | ((with_reducible refine gate_dst (N := 34) rfl ?_); (refine wpList_load_mid rfl 67 (.tmp 33) rfl g (i * 6) (by first | rfl | (simp; done)) [.int .i64 x.kind, .int .u32 x.boot, .int .u32 x.mine, .int .u32 x.peer, .int .u32 x.yours, .slice Ab x.body.length cb] _ HRG.out Try.underlying67 rfl (by kernel_rfl) ?_)) | ((with_reducible refine gate_ (.store 67 (.tmp 7) (.tmp 80)) rfl ?_); (refine store_row_F rfl rfl 67 (.tmp 7) (.tmp 80) rfl w3.heap.size #[.int .i64 0, .int .u32 x.boot, .int .u32 0, .int .u32 0, .int .u32 0, .slice none 0 0] rfl rfl 67 _ HLW.out (by kernel_rfl) rfl (by kernel_rfl) ?_); (intro wn hbn hatn); (have HBN := Lib.hid hbn); (have HAT := Lib.hid (hatn.below HB9.out (Nat.le_refl _))); (clear hbn hatn)))
      go_roundg (nl - (i + 1))
      case measure => have := HMQ.out; omega
      case rel => exact ⟨i + 1, false, x.boot, 0, 0, 0, rfl, by omega, rfl, by first | rfl | simp, by rw [HCK'.out, HK'.out], HAT.out, 0, .slice none 0 0, HBN.out⟩
     ·have HK' := Lib.hid hK'
      have hk5 : (x.kind == 5) = false := by simp [h5]
      have hk1 : (x.kind == 1) = true := by simp [h1]
      have q1 : (x.boot != kb) = false := by simp [hxb]
      have q2 : decide (x.mine ≤ km) = false := by simp; omega
      have q3 : (x.peer == 0) = false := by simp [hxp]
      have q4 : (x.yours == 0) = false := by simp [hxy]
      have q5 : decide (x.peer < kp) = false := by simp; omega
      subst hb0
      subst hb'
      by_cases hpk : x.peer = kp
      ·have q6 : (x.peer == kp) = true := by simp [hpk]
       have q7 : decide (x.yours < ky) = false := by have := hxy2 hpk; simp; omega
       clear hK' h5 h1 hxb hxm hxp hxy hxp2 hxy2 hpk
       go_wp2_with (first | ((with_reducible refine gate_dst (N := 34) rfl ?_); (refine wpList_load_mid rfl 67 (.tmp 33) rfl g (i * 6) (by first | rfl | (simp; done)) [.int .i64 x.kind, .int .u32 x.boot, .int .u32 x.mine, .int .u32 x.peer, .int .u32 x.yours, .slice Ab x.body.length cb] _ HRG.out Try.underlying67 rfl (by kernel_rfl) ?_)) | ((with_reducible refine gate_dst (N := 129) rfl ?_); (refine wpList_load_row rfl 67 (.tmp 9) rfl wr.heap.size (by rfl) 67 #[.int .i64 x.kind, .int .u32 x.boot, .int .u32 x.mine, .int .u32 x.peer, .int .u32 x.yours, .slice Ab x.body.length cb] (0, 0) _ HNW.out Try.underlying67 rfl (by kernel_rfl) ?_)) | ((with_reducible refine gate_ (.store 67 (.tmp 7) (.tmp 129)) rfl ?_); (refine store_row_F rfl rfl 67 (.tmp 7) (.tmp 129) rfl w3.heap.size #[.int .i64 x.kind, .int .u32 x.boot, .int .u32 x.mine, .int .u32 x.peer, .int .u32 x.yours, .slice Ab x.body.length cb] rfl rfl 67 _ HLW.out (by kernel_rfl) rfl (by kernel_rfl) ?_); (intro wn hbn hatn); (have HBN := Lib.hid hbn); (have HAT := Lib.hid (hatn.below HB9.out (Nat.le_refl _))); (clear hbn hatn)))
       go_roundg (nl - (i + 1))
       case measure => have := HMQ.out; omega
       case rel => exact ⟨i + 1, true, x.boot, x.mine, x.peer, x.yours, rfl, by omega, rfl, by first | rfl | simp, by rw [HCK'.out, HK'.out]; rfl, HAT.out, x.kind, _, HBN.out⟩
      ·have q6 : (x.peer == kp) = false := by simp [hpk]
       clear hK' h5 h1 hxb hxm hxp hxy hxp2 hxy2 hpk
       go_wp2_with (first | ((with_reducible refine gate_dst (N := 34) rfl ?_); (refine wpList_load_mid rfl 67 (.tmp 33) rfl g (i * 6) (by first | rfl | (simp; done)) [.int .i64 x.kind, .int .u32 x.boot, .int .u32 x.mine, .int .u32 x.peer, .int .u32 x.yours, .slice Ab x.body.length cb] _ HRG.out Try.underlying67 rfl (by kernel_rfl) ?_)) | ((with_reducible refine gate_dst (N := 129) rfl ?_); (refine wpList_load_row rfl 67 (.tmp 9) rfl wr.heap.size (by rfl) 67 #[.int .i64 x.kind, .int .u32 x.boot, .int .u32 x.mine, .int .u32 x.peer, .int .u32 x.yours, .slice Ab x.body.length cb] (0, 0) _ HNW.out Try.underlying67 rfl (by kernel_rfl) ?_)) | ((with_reducible refine gate_ (.store 67 (.tmp 7) (.tmp 129)) rfl ?_); (refine store_row_F rfl rfl 67 (.tmp 7) (.tmp 129) rfl w3.heap.size #[.int .i64 x.kind, .int .u32 x.boot, .int .u32 x.mine, .int .u32 x.peer, .int .u32 x.yours, .slice Ab x.body.length cb] rfl rfl 67 _ HLW.out (by kernel_rfl) rfl (by kernel_rfl) ?_); (intro wn hbn hatn); (have HBN := Lib.hid hbn); (have HAT := Lib.hid (hatn.below HB9.out (Nat.le_refl _))); (clear hbn hatn)))
       go_roundg (nl - (i + 1))
       case measure => have := HMQ.out; omega
       case rel => exact ⟨i + 1, true, x.boot, x.mine, x.peer, x.yours, rfl, by omega, rfl, by first | rfl | simp, by rw [HCK'.out, HK'.out]; rfl, HAT.out, x.kind, _, HBN.out⟩
     ·have HK' := Lib.hid hK'
      have hk5 : (x.kind == 5) = false := by simp [h5]
      have hk1 : (x.kind == 1) = false := by simp [h1]
      have q1 : (x.boot != kb) = false := by simp [hxb]
      have q2 : (x.mine != km) = false := by simp [hxm]
      have q3 : (x.peer != kp) = false := by simp [hxp]
      have q4 : (x.yours != ky) = false := by simp [hxy]
      subst hb0
      by_cases h2 : x.kind = 2
      ·have hk2 : (x.kind != 2) = false := by simp [h2]
       have hbx : b' = false := by rw [hb']; simp [h2]
       subst hbx
       clear hK' h5 h1 hxb hxm hxp hxy hb' h2
       go_wp2_with (first | ((with_reducible refine gate_dst (N := 34) rfl ?_); (refine wpList_load_mid rfl 67 (.tmp 33) rfl g (i * 6) (by first | rfl | (simp; done)) [.int .i64 x.kind, .int .u32 x.boot, .int .u32 x.mine, .int .u32 x.peer, .int .u32 x.yours, .slice Ab x.body.length cb] _ HRG.out Try.underlying67 rfl (by kernel_rfl) ?_)))
       go_roundg (nl - (i + 1))
       case measure => have := HMQ.out; omega
       case rel => exact ⟨i + 1, false, kb, km, kp, ky, rfl, by omega, rfl, by first | rfl | simp, by rw [HCK'.out, HK'.out], HB9.out, kd, bv, HLW.out⟩
      ·have hk2 : (x.kind != 2) = true := by simp [h2]
       have hbx : b' = true := by rw [hb']; simp [h2]
       subst hbx
       clear hK' h5 h1 hxb hxm hxp hxy hb' h2
       go_wp2_with (first | ((with_reducible refine gate_dst (N := 34) rfl ?_); (refine wpList_load_mid rfl 67 (.tmp 33) rfl g (i * 6) (by first | rfl | (simp; done)) [.int .i64 x.kind, .int .u32 x.boot, .int .u32 x.mine, .int .u32 x.peer, .int .u32 x.yours, .slice Ab x.body.length cb] _ HRG.out Try.underlying67 rfl (by kernel_rfl) ?_)))
       go_roundg (nl - (i + 1))
       case measure => have := HMQ.out; omega
       case rel => exact ⟨i + 1, true, kb, km, kp, ky, rfl, by omega, rfl, by first | rfl | simp, by rw [HCK'.out, HK'.out], HB9.out, kd, bv, HLW.out⟩
    ·have hd9 : decide ((i : Int) < (nl : Int)) = false := by simp; omega
     have hie : i = nl := by have := HIQ.out; omega
     have hck := HCK.out
     rw [hie, ← HNL.out, List.take_of_length_le (Nat.le_refl _), HCHK.out] at hck
     injection hck with hck
     injection hck with hbe _
     have HPW := Lib.hid (HP3.out.sub HBQ.out)
     clear hie
     have hph := phase_pp HPW.out s HLT.out
     rw [HPH.out] at hph
     have HPC := Lib.hid hph
     clear hph
     by_cases hp2 : ph = 2
     ·have hbt : b = true := by rw [← hbe]; simp [hp2]
      have hq2 : (ph == 2) = true := by simp [hp2]
      subst hbt
      clear hbe hp2
      go_wp2_with (first | (go_at_call 40; (have hc := HPC.out); (with_reducible refine hc.mono ?_); clear hc; rintro e w8 ⟨rfl, rfl⟩; skip))
      go_roundg (2 - (s + 1))
      case measure => have := HM.out; have := HLT.out; omega
      case rel => exact ⟨s + 1, rfl, by have := HLT.out; omega, by first | rfl | simp, HPW.out⟩
     ·have hbt : b = false := by rw [← hbe]; simp [hp2]
      have hq2 : (ph == 2) = false := by simp [hp2]
      subst hbt
      clear hbe hp2
      go_wp2_with (first | (go_at_call 40; (have hc := HPC.out); (with_reducible refine hc.mono ?_); clear hc; rintro e w8 ⟨rfl, rfl⟩; skip))
      go_roundg (2 - (s + 1))
      case measure => have := HM.out; have := HLT.out; omega
      case rel => exact ⟨s + 1, rfl, by have := HLT.out; omega, by first | rfl | simp, HPW.out⟩
  ·have hd : decide ((s : Int) < 2) = false := by simp; omega
   go_wp2_with fail
   all_goals (go_ret; exact ⟨rfl, HP.out.below⟩)
end Go.Proofs.Ytnkkgofpifhoeaa.Pr
end
section
namespace Go.Proofs.Ytnkkgofpifhoeaa.pairEpochs
open Go.ChangeShapes Go.WideShapes Go.ChangeAt Go.RowKit Go.Deep
open Go.ChangeMaps (open_string shut_string)
theorem own : ownKnob Try.prog.godebug = none := by kernel_rfl
theorem laidOut : laidOutB Try.prog = true := by kernel_rfl
set_option maxRecDepth 100000 in
theorem lifted (os : Os) (started : os.Started) (H : Type) (enc : TypeId × Value → H) :
  ReturnsInHanded {} Try.checked os 8 .any (Rows.pairEpochsSpec.pre6 enc Try.prog Try.f8 Rows.pairEpochsRow.domain false) (Rows.pairEpochsSpec.post enc Try.prog Try.f8 false true false false) := by
 refine returnsInHanded_of_change_sized (C := Try.checked) own started (by kernel_rfl) Try.func8
  (ChangeSpec.witness6 (enc := enc) (C := Try.checked) false ⟨#[], #[.slice none 0 0], []⟩ 8 (by kernel_rfl) (by kernel_rfl) (by kernel_rfl) (by kernel_rfl)) ?_
 intro W base args ds gs before hval0 hW hcnd hsz0 _
 have hval : ∀ (j : Nat) t v, Try.f8.params[j]? = some t → args[j]? = some v → Value.okWide Try.prog W .any base t v := hval0
 have hW' := hW
 obtain ⟨p, q, hA0, hV, rfl, hfz, hnd⟩ := hW
 have hA : DataW.TrodAll enc Try.prog W 0 (fun _ => true) true Try.f8.params.toList args.toList ds p := hA0
 rw [Try.params8] at hA hval
 obtain ⟨v0, vs0, d0, ds0, p0, q0, hargs, rfl, rfl, h0, r0⟩ := trodAll_cons hA
 obtain ⟨rfl, rfl, rfl⟩ := trodAll_nil r0
 obtain rfl : args = #[v0] := by cases args; simp_all
 obtain ⟨rfl, rfl⟩ := trodVars_none hV
 obtain ⟨a0, len0, cap0, rfl⟩ := okWide_slice Try.underlying60 (hval 0 60 v0 rfl rfl)
 have k0 := h0
 have lt0 : ∀ x ∈ p0, x.block < W.heap.size := by obtain ⟨m, hm⟩ := k0; exact DataW.trod_lt m _ _ _ hm
 obtain ⟨xs, hC0⟩ : ∃ xs, Pr.act.C W a0 len0 xs := by
  obtain ⟨fuel, hf⟩ := h0
  exact Pr.acts_of_trod hf
 clear hA0 hval0 hsz0
 refine (Pr.pe_walk W a0 len0 cap0 xs hC0).mono fun e W' ⟨he, bel⟩ => ?_
 subst he
 exact ⟨_, rfl, _, _, _, [], _, [], hW', trodAll_mk1 (shut_bool Try.underlying4 _), (trodAll_cons_mk (Below.trod laidOut (by kernel_rfl) (of_decide_eq_true (by kernel_rfl)) k0 bel lt0) trodAll_mk0), rfl, bel.frame _, fun h => by cases h⟩
theorem over : Rows.pairEpochsRow.holds Try.pinned (OpenSpec.ofChange Rows.pairEpochsSpec) :=
 OpenClaim.holds_of_wide 8 Try.f8 rfl rfl rfl rfl rfl rfl rfl ⟨rfl, rfl, rfl, rfl, rfl⟩ rfl rfl rfl rfl rfl (by kernel_rfl) Try.func8 (by kernel_rfl)
  (of_decide_eq_true (by kernel_rfl)) (by unfold Func.isWrapper; first | (rw [if_pos (by decide +kernel)]; kernel_rfl) | (rw [if_neg (by decide +kernel)]; exact ⟨rfl, rfl⟩))
  (fun os started H enc _ => lifted os started H enc)
theorem proved : Rows.PairEpochsSaid := over
end Go.Proofs.Ytnkkgofpifhoeaa.pairEpochs
namespace Go.Proofs.Ytnkkgofpifhoeaa
theorem pairEpochs_holds : Rows.PairEpochsSaid := pairEpochs.proved
end Go.Proofs.Ytnkkgofpifhoeaa
end
