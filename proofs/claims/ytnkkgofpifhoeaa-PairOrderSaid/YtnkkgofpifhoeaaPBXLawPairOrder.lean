/- The law PairOrder holds: of two ends of a pair what a side got in a link is a beginning of what the other side sent in it, in order, nothing twice, whatever a script does to them. For every script that can be read; no condition. -/
import Derived.Test.YtnkkgofpifhoeaaPB6
import Derived.Test.YtnkkgofpifhoeaaRows
import Derived.OpenShut
import Derived.ShutString
import Derived.ChangeOld
import Derived.SizedLaws
set_option linter.unusedSimpArgs false
set_option linter.unusedVariables false
section
namespace Go.Proofs.Ytnkkgofpifhoeaa.Pr
open Go.RowKit Go.Proofs.Ytnkkgofpifhoeaa.Base Go.Proofs.Ytnkkgofpifhoeaa.Steps Go.Proofs.Ytnkkgofpifhoeaa.Lk Go.Proofs.Ytnkkgofpifhoeaa.Win Go.Proofs.YtnkkgofpifhoeaaW.PrintWords Go.Proofs.YtnkkgofpifhoeaaW.PrintLast
theorem ent_elem {w : World} {B : Nat} {ok : Nat → Prop} {A : Option Addr} {n c : Nat} {l : List Ent} (h : ent.R 67 w B ok (.slice A n c) l) (i : Nat) (hi : i < n) :
  ∃ g Ab cb, A = some ⟨g, 0, none⟩ ∧ n = l.length ∧ w.rangeAt g (i * 6) (ecells (l.getD i nilE) (.slice Ab (l.getD i nilE).body.length cb)) ∧ (Kd.int .u8).C w Ab (l.getD i nilE).body.length (l.getD i nilE).body := by
 obtain ⟨hn, hnc, hC⟩ := Kd.R_reads' h
 obtain ⟨gx, cap, he, _⟩ := Kd.R_form h (by omega)
 injection he with h1 h2 h3
 subst h1
 obtain ⟨cs, hl, hM, hc, _⟩ := Kd.R_elem h nilE (i : Int) (by omega) (by omega)
 obtain ⟨b, hcs, hRb⟩ := ent_M.1 hM
 obtain ⟨Ab, cb, hbv⟩ := Kd.R_slice hRb
 subst hbv
 subst hcs
 refine ⟨gx, Ab, cb, rfl, hn, fun j u hu => ?_, (Kd.R_reads' hRb).2.2⟩
 have := hc j u hu
 simpa [ent_sz] using this
end Go.Proofs.Ytnkkgofpifhoeaa.Pr
end
section
namespace Go.Proofs.Ytnkkgofpifhoeaa.Pr
open Go.RowKit Go.Proofs.Ytnkkgofpifhoeaa.Base Go.Proofs.Ytnkkgofpifhoeaa.Steps Go.Proofs.Ytnkkgofpifhoeaa.Lk Go.Proofs.Ytnkkgofpifhoeaa.Win Go.Proofs.YtnkkgofpifhoeaaW.PrintWords Go.Proofs.YtnkkgofpifhoeaaW.PrintLast
set_option maxHeartbeats 1000000 in
theorem mirror_any (w : World) (x g : Ent) (bx bg : Value) : Calls Try.prog 39 #[.agg #[.int .i64 x.kind, .int .u32 x.boot, .int .u32 x.mine, .int .u32 x.peer, .int .u32 x.yours, bx], .agg #[.int .i64 g.kind, .int .u32 g.boot, .int .u32 g.mine, .int .u32 g.peer, .int .u32 g.yours, bg]] w fun e w' => e = .returned (.bool (mirB x g)) ∧ Below w.heap.size w w' := by
 have hb2 : Below w.heap.size w ((w.alloc (.cells #[.int .i64 x.kind, .int .u32 x.boot, .int .u32 x.mine, .int .u32 x.peer, .int .u32 x.yours, bx] 67)).alloc (.cells #[.int .i64 g.kind, .int .u32 g.boot, .int .u32 g.mine, .int .u32 g.peer, .int .u32 g.yours, bg] 67)) := ((Below.refl _ _).alloc (Nat.le_refl _) _).alloc (by simp) _
 have HB := Lib.hid hb2
 clear hb2
 have hm : ∀ b : Bool, (b = true → x.kind = 3 ∧ x.boot = g.peer ∧ x.mine = g.yours ∧ x.peer = g.boot ∧ x.yours = g.mine) → (b = false → ¬ (x.kind = 3 ∧ x.boot = g.peer ∧ x.mine = g.yours ∧ x.peer = g.boot ∧ x.yours = g.mine)) → mirB x g = b := fun b h1 h2 => by
  unfold mirB
  cases b
  ·exact decide_eq_false (h2 rfl)
  ·exact decide_eq_true (h1 rfl)
 have HM := Lib.hid hm
 clear hm
 by_cases h0 : x.kind = 3
 rotate_left
 ·have q0 : (x.kind == 3) = false := by simp [h0]
  rw [HM.out false (fun x => by cases x) (fun _ hx => h0 hx.1)]
  clear h0
  go_enter Try.func39, Try.ntmps39
  go_wp2_with fail
  all_goals (go_ret; exact ⟨rfl, HB.out⟩)
 have q0 : (x.kind == 3) = true := by simp [h0]
 by_cases h1 : x.boot = g.peer
 rotate_left
 ·have q1 : (x.boot == g.peer) = false := by simp [h1]
  rw [HM.out false (fun x => by cases x) (fun _ hx => h1 hx.2.1)]
  clear h1 h0
  go_enter Try.func39, Try.ntmps39
  go_wp2_with fail
  all_goals (go_ret; exact ⟨rfl, HB.out⟩)
 have q1 : (x.boot == g.peer) = true := by simp [h1]
 by_cases h2 : x.mine = g.yours
 rotate_left
 ·have q2 : (x.mine == g.yours) = false := by simp [h2]
  rw [HM.out false (fun x => by cases x) (fun _ hx => h2 hx.2.2.1)]
  clear h2 h0 h1
  go_enter Try.func39, Try.ntmps39
  go_wp2_with fail
  all_goals (go_ret; exact ⟨rfl, HB.out⟩)
 have q2 : (x.mine == g.yours) = true := by simp [h2]
 by_cases h3 : x.peer = g.boot
 rotate_left
 ·have q3 : (x.peer == g.boot) = false := by simp [h3]
  rw [HM.out false (fun x => by cases x) (fun _ hx => h3 hx.2.2.2.1)]
  clear h3 h0 h1 h2
  go_enter Try.func39, Try.ntmps39
  go_wp2_with fail
  all_goals (go_ret; exact ⟨rfl, HB.out⟩)
 have q3 : (x.peer == g.boot) = true := by simp [h3]
 by_cases h4 : x.yours = g.mine
 rotate_left
 ·have q4 : (x.yours == g.mine) = false := by simp [h4]
  rw [HM.out false (fun x => by cases x) (fun _ hx => h4 hx.2.2.2.2)]
  clear h4 h0 h1 h2 h3
  go_enter Try.func39, Try.ntmps39
  go_wp2_with fail
  all_goals (go_ret; exact ⟨rfl, HB.out⟩)
 have q4 : (x.yours == g.mine) = true := by simp [h4]
 rw [HM.out true (fun _ => ⟨h0, h1, h2, h3, h4⟩) (fun x => by cases x)]
 clear h0 h1 h2 h3 h4
 go_enter Try.func39, Try.ntmps39
 go_wp2_with fail
 all_goals (go_ret; exact ⟨rfl, HB.out⟩)
set_option maxRecDepth 100000 in
set_option maxHeartbeats 4000000 in
theorem po_walk (w : World) (A : Option Addr) (n c : Nat) (sc : List Act) (hC : act.C w A n sc) : Calls Try.prog 7 #[.slice A n c] w fun e w' => e = .returned (.bool true) ∧ Below w.heap.size w w' := by
 have H := Lib.hid hC
 clear hC
 go_enter Try.func7, Try.ntmps7
 go_wp2_with (first | (go_at_call 35; (have hc := alive12 w); (with_reducible refine hc.mono ?_); clear hc; rintro e w1 ⟨rfl, hb1⟩; (have HB1 := Lib.hid hb1); clear hb1))
 have hf1 := fits_w w1 A n c sc (act_C_below H.out HB1.out)
 have HF := Lib.hid hf1
 clear hf1
 go_wp2_with (go_at_call 36; (have hc := HF.out); (with_reducible refine hc.mono ?_); clear hc; rintro e w9 ⟨⟨bf, rfl, hbf⟩, rfl⟩; (have HBF := Lib.hid hbf); (clear hbf); (cases bf))
 any_goals (go_ret; exact ⟨rfl, HB1.out⟩)
 have hfit := HBF.out (by first | rfl | trivial)
 have hrun := run_w w w1 HB1.out A n c sc H.out hfit
 have HRUN := Lib.hid hrun
 have hinv := run_inv sc new_inv (by have := hfit.1; omega)
 have HINV := Lib.hid hinv
 have HLN := Lib.hid hfit.1
 clear hrun hinv hfit HBF
 go_wp2_with (go_at_call 37; (have hc := HRUN.out); (with_reducible refine hc.mono ?_); clear hc; rintro e w2 ⟨gp, rfl, hP, hgp⟩; (have HP0 := Lib.hid hP); clear hP hgp)
 generalize runX newX sc = X at *
 go_loopg [4] 2 (fun m v wr => ∃ s : Nat, m = 2 - s ∧ s ≤ 2 ∧ v = .int .i64 (s : Int) ∧ PP w gp X wr)
 case atStart => exact ⟨0, rfl, by decide, rfl, HP0.out⟩
 case round =>
  obtain ⟨wo, rfl⟩ : ∃ wo : World, wo = wr := ⟨_, rfl⟩
  obtain ⟨s, hm, hsn, rfl, hP⟩ := hrel
  have HM := Lib.hid hm
  have HS := Lib.hid hsn
  have HP := Lib.hid hP
  clear hm hsn hP
  by_cases hlt : s < 2
  ·have hd : decide ((s : Int) < 2) = true := by simp; omega
   have HLT := Lib.hid hlt
   obtain ⟨Kf, hchk, _⟩ := epochs_log HINV.out s hlt
   have HCHK := Lib.hid hchk
   have HPRE := Lib.hid (HINV.out.p.pref s hlt)
   have hN9 : 0 + sc.length ≤ 900000 := by have := HLN.out; omega
   have hlog := log_pp HP.out HINV.out hN9 s hlt
   have HLOG := Lib.hid hlog
   have HNL9 := Lib.hid (show (X.sd s).log.length ≤ 1000000 from by have h1 := (HINV.out.p.side s hlt).len; omega)
   have HNM9 := Lib.hid (show (X.sd (1 - s)).log.length ≤ 1000000 from by have h1 := (HINV.out.p.side (1 - s) (by omega)).len; omega)
   have HLOG2 := Lib.hid (show ∀ W : World, PP w gp X W → Calls Try.prog 38 #[.pointer (some ⟨gp, 0, none⟩), .int .i64 (1 - (s : Int))] W fun e w' => ∃ v, e = .returned v ∧ ent.R 67 w' w.heap.size (fun k => W.heap.size ≤ k) v (X.sd (1 - s)).log ∧ Below W.heap.size W w' from fun W hW => by
    have h2 := log_pp hW HINV.out hN9 (1 - s) (by omega)
    rwa [show (((1 - s : Nat)) : Int) = 1 - (s : Int) by omega] at h2)
   clear hchk hlog hN9
   generalize hll : (X.sd s).log = l at *
   generalize hlm : (X.sd (1 - s)).log = ms at *
   clear hll hlm
   have hs0 : (0 : Int) ≤ s := by omega
   go_wp2_with (first | (go_at_call 38; (have hc := HLOG.out); (with_reducible refine hc.mono ?_); clear hc; rintro e w3 ⟨v, rfl, hR, hb3⟩; (obtain ⟨A3, c3, hv⟩ := Kd.R_slice hR); (subst hv); (have HR3 := Lib.hid hR); (have HP3 := Lib.hid (HP.out.sub hb3)); (clear hR hb3)) | (go_at_call 38; (have hc := HLOG2.out w3 HP3.out); (with_reducible refine hc.mono ?_); clear hc; rintro e w4 ⟨v, rfl, hR, hb4⟩; (obtain ⟨A4, c4, hv⟩ := Kd.R_slice hR); (subst hv); (have HR4 := Lib.hid hR); (have HL4 := Lib.hid (Kd.R_below HR3.out hb4)); (have HP4 := Lib.hid (HP3.out.sub hb4)); (clear hR hb4)))
   generalize hnl : l.length = nl at *
   have HNL := Lib.hid hnl
   clear hnl
   generalize hnm : ms.length = nm at *
   have HNM := Lib.hid hnm
   clear hnm hs0
   go_loopg [7, 8] nl (fun m av v wr => ∃ (i at_ : Nat), m = nl - i ∧ i ≤ nl ∧ av = .int .i64 (at_ : Int) ∧ v = .int .i64 (i : Int) ∧ OR l ms i at_ ∧ Below w4.heap.size w4 wr)
   case atStart => exact ⟨0, 0, rfl, Nat.zero_le _, rfl, rfl, or_start, Below.refl _ _⟩
   case round =>
    obtain ⟨wi, rfl⟩ : ∃ wi : World, wi = wr := ⟨_, rfl⟩
    obtain ⟨i, at_, hm, hin, rfl, rfl, hor, hbq⟩ := hrel
    have HMQ := Lib.hid hm
    have HIQ := Lib.hid hin
    have HOR := Lib.hid hor
    have HBQ := Lib.hid hbq
    clear hm hin hor hbq
    have hnl9 := HNL9.out
    by_cases hli : i < nl
    ·have hd9 : decide ((i : Int) < (nl : Int)) = true := by simp [hli]
     have HLI := Lib.hid (show i < l.length by rw [HNL.out]; exact hli)
     obtain ⟨g, Ab, cb, hA, -, hrg, hCb⟩ := ent_elem HL4.out i hli
     subst hA
     have HRG := Lib.hid (show wi.rangeAt g (i * 6) (ecells (l.getD i nilE) (.slice Ab (l.getD i nilE).body.length cb)) from fun j v hv => pw_cell_below HBQ.out (hrg j v hv))
     have HCB := Lib.hid (Kd.C_below hCb HBQ.out)
     clear hrg hCb
     have HOT := Lib.hid (fun hk => or_other HCHK.out HLI.out HOR.out hk)
     have HTH := Lib.hid (fun hk p => or_there (p := p) HCHK.out HPRE.out HLI.out HOR.out hk)
     generalize hx : l.getD i nilE = x at *
     have HX := Lib.hid hx
     clear hx
     have HNW := Lib.hid (heap_alloc_new wi (.cells #[.int .i64 x.kind, .int .u32 x.boot, .int .u32 x.mine, .int .u32 x.peer, .int .u32 x.yours, .slice Ab x.body.length cb] 67))
     have HBW := Lib.hid (show Below wi.heap.size wi (wi.alloc (.cells #[.int .i64 x.kind, .int .u32 x.boot, .int .u32 x.mine, .int .u32 x.peer, .int .u32 x.yours, .slice Ab x.body.length cb] 67)) from (Below.refl _ _).alloc (Nat.le_refl _) _)
     have HB9 := Lib.hid (HBQ.out.trans (HBW.out.mono HBQ.out.size))
     by_cases hk4 : x.kind = 4
     ·have hq1 : (x.kind == 1) = false := by simp [hk4]
      have hq4 : (x.kind != 4) = false := by simp [hk4]
      have HK4 := Lib.hid hk4
      clear hk4
      go_wp2_with (first | ((with_reducible refine gate_dst (N := 37) rfl ?_); (refine wpList_load_mid rfl 67 (.tmp 36) rfl g (i * 6) (by first | rfl | (simp; done)) [.int .i64 x.kind, .int .u32 x.boot, .int .u32 x.mine, .int .u32 x.peer, .int .u32 x.yours, .slice Ab x.body.length cb] _ HRG.out Try.underlying67 rfl (by kernel_rfl) ?_)))
      generalize hw5 : wi.alloc (.cells #[.int .i64 x.kind, .int .u32 x.boot, .int .u32 x.mine, .int .u32 x.peer, .int .u32 x.yours, .slice Ab x.body.length cb] 67) = w5 at *
      clear hw5
      have HOM := Lib.hid (show at_ ≤ nm from by have := HOR.out.1; rw [HNM.out] at this; exact this)
      have hnm9 := HNM9.out
      go_loopg [7] (nm - at_) (fun m av wr => ∃ p : Nat, m = nm - p ∧ at_ ≤ p ∧ p ≤ nm ∧ av = .int .i64 (p : Int) ∧ (∀ j, at_ ≤ j → j < p → mirB (ms.getD j nilE) x = false) ∧ Below w5.heap.size w5 wr)
      case atStart => exact ⟨at_, rfl, Nat.le_refl _, HOM.out, rfl, fun j h1 h2 => absurd h1 (by omega), Below.refl _ _⟩
      case round =>
       obtain ⟨p, hm, hap, hpm, rfl, hno, hb5⟩ := hrel
       obtain ⟨hpl, hyes⟩ := HTH.out HK4.out p hap (by rw [HNM.out]; exact hpm) hno
       rw [HNM.out] at hpl
       have HMP := Lib.hid hm
       have HAP := Lib.hid hap
       have HNO := Lib.hid hno
       have HB5 := Lib.hid hb5
       clear hm hap hno hb5 hpm
       obtain ⟨g4, Ay, cy, hA4, -, hrg4, hCy⟩ := ent_elem HR4.out p hpl
       subst hA4
       have HB49 := Lib.hid (HB9.out.trans (HB5.out.mono HB9.out.size))
       have hrgw : wr.rangeAt g4 (p * 6) (ecells (ms.getD p nilE) (.slice Ay (ms.getD p nilE).body.length cy)) := fun j v hv => pw_cell_below HB49.out (hrg4 j v hv)
       have HCY := Lib.hid (Kd.C_below hCy HB49.out)
       have HCX := Lib.hid (Kd.C_below (Kd.C_below HCB.out HBW.out) HB5.out)
       generalize hy : ms.getD p nilE = y at *
       have HY := Lib.hid hy
       have HYES := Lib.hid hyes
       clear hy hyes hrg4 hCy
       have HRY := Lib.hid hrgw
       have HNX := Lib.hid ((HB5.out.block _ (blk_lt HNW.out)).trans HNW.out)
       clear hrgw
       have hd19 : decide ((p : Int) < (nm : Int)) = true := by simp [hpl]
       have hSS : wr.drew.rangeAt g4 (p * 6) (ecells y (.slice Ay y.body.length cy)) ∧ wr.drew.heap[wi.heap.size]? = some (.cells #[.int .i64 x.kind, .int .u32 x.boot, .int .u32 x.mine, .int .u32 x.peer, .int .u32 x.yours, .slice Ab x.body.length cb] 67 (0, 0)) := ⟨fun j v hv => pw_cell_below (bl_drew (Below.refl wr.heap.size wr)) (HRY.out j v hv), HNX.out⟩
       have hbd := bl_drew (Below.refl wr.heap.size wr)
       go_wp2_with fail
       refine start_ (n := 13) (S := fun w' => w'.rangeAt g4 (p * 6) (ecells y (.slice Ay y.body.length cy)) ∧ w'.heap[wi.heap.size]? = some (.cells #[.int .i64 x.kind, .int .u32 x.boot, .int .u32 x.mine, .int .u32 x.peer, .int .u32 x.yours, .slice Ab x.body.length cb] 67 (0, 0))) (ds := [10]) #[false, false, false, false, false, false, false, false, false, false, false, false, false] (by kernel_rfl) rfl rfl (hSS) (fun hHeld => ?_)
       generalize wr.drew = w6 at hbd hHeld ⊢
       have HBD := Lib.hid hbd
       clear hbd
       refine pure_ (i := 0) (N := some 44) (v := ?_) (a' := ?_) #[true, false, false, false, false, false, false, false, false, false, false, false, false] rfl rfl (by kernel_rfl) (fun _ _ _ h => h) (Or.inl ⟨by rfl, ?_⟩) ?_ ?_
       rotate_left
       ·intro w'
        go_simp
        with_reducible rfl
       rotate_left
       ·simp only [Act.put, List.setIfInBounds_toArray, List.set_cons_zero, List.set_cons_succ]
        rfl
       refine pure_ (i := 1) (N := some 45) (v := ?_) (a' := ?_) #[true, true, false, false, false, false, false, false, false, false, false, false, false] rfl rfl (by kernel_rfl) (fun _ _ _ h => h) (Or.inl ⟨by rfl, ?_⟩) ?_ ?_
       rotate_left
       ·intro w'
        go_simp
        with_reducible rfl
       rotate_left
       ·simp only [Act.put, List.setIfInBounds_toArray, List.set_cons_zero, List.set_cons_succ]
        rfl
       refine pure_ (i := 2) (N := some 46) (v := ?_) (a' := ?_) #[true, true, true, false, false, false, false, false, false, false, false, false, false] rfl rfl (by kernel_rfl) (fun _ _ _ h => h) (Or.inl ⟨by rfl, ?_⟩) ?_ ?_
       rotate_left
       ·intro w'
        go_simp
        with_reducible rfl
       rotate_left
       ·simp only [Act.put, List.setIfInBounds_toArray, List.set_cons_zero, List.set_cons_succ]
        rfl
       refine pure_ (i := 3) (N := some 47) (v := ?_) (a' := ?_) #[true, true, true, true, false, false, false, false, false, false, false, false, false] rfl rfl (by kernel_rfl) (fun _ _ _ h => h) (Or.inl ⟨by rfl, ?_⟩) ?_ ?_
       rotate_left
       ·intro w'
        go_simp
        first | done | with_reducible rfl
       rotate_left
       ·simp only [Act.put, List.setIfInBounds_toArray, List.set_cons_zero, List.set_cons_succ]
        rfl
       refine pure_ (i := 4) (N := some 48) (v := ?_) (a' := ?_) #[true, true, true, true, true, false, false, false, false, false, false, false, false] rfl rfl (by kernel_rfl) (fun _ _ _ h => h) (Or.inl ⟨by rfl, ?_⟩) ?_ ?_
       rotate_left
       ·intro w'
        go_simp
        with_reducible rfl
       rotate_left
       ·simp only [Act.put, List.setIfInBounds_toArray, List.set_cons_zero, List.set_cons_succ]
        rfl
       refine pure_ (i := 5) (N := some 49) (v := ?_) (a' := ?_) #[true, true, true, true, true, true, false, false, false, false, false, false, false] rfl rfl (by kernel_rfl) (fun _ _ _ h => h) (Or.inl ⟨by rfl, ?_⟩) ?_ ?_
       rotate_left
       ·intro w'
        go_simp
        with_reducible rfl
       rotate_left
       ·simp only [Act.put, List.setIfInBounds_toArray, List.set_cons_zero, List.set_cons_succ]
        rfl
       refine pure_ (i := 6) (N := some 50) (v := ?_) (a' := ?_) #[true, true, true, true, true, true, true, false, false, false, false, false, false] rfl rfl (by kernel_rfl) (fun _ _ _ h => h) (Or.inl ⟨by rfl, ?_⟩) ?_ ?_
       rotate_left
       ·intro w'
        go_simp
        with_reducible rfl
       rotate_left
       ·simp only [Act.put, List.setIfInBounds_toArray, List.set_cons_zero, List.set_cons_succ]
        rfl
       refine pure_ (i := 7) (N := some 51) (v := ?_) (a' := ?_) #[true, true, true, true, true, true, true, true, false, false, false, false, false] rfl rfl (by kernel_rfl) (fun _ _ _ h => h) (Or.inl ⟨by rfl, ?_⟩) ?_ ?_
       rotate_left
       ·intro w'
        go_simp
        first | done | with_reducible rfl | rfl
       rotate_left
       ·simp only [Act.put, List.setIfInBounds_toArray, List.set_cons_zero, List.set_cons_succ]
        rfl
       refine take_ (i := 8) (N := some 52) (v := ?_) (a' := ?_) #[true, true, true, true, true, true, true, true, true, false, false, false, false] rfl rfl (by kernel_rfl) (fun _ _ _ h => h) (Or.inl ⟨by rfl, ?_⟩) hHeld ?_ ?_
       rotate_left
       ·intro w' s0
        have hu67 := Try.underlying67
        have hy0 : w'.cell? ⟨g4, p * 6 + 0, none⟩ = some (.int .i64 y.kind) := s0.1 0 _ rfl
        have hy1 : w'.cell? ⟨g4, p * 6 + 1, none⟩ = some (.int .u32 y.boot) := s0.1 1 _ rfl
        have hy2 : w'.cell? ⟨g4, p * 6 + 2, none⟩ = some (.int .u32 y.mine) := s0.1 2 _ rfl
        have hy3 : w'.cell? ⟨g4, p * 6 + 3, none⟩ = some (.int .u32 y.peer) := s0.1 3 _ rfl
        have hy4 : w'.cell? ⟨g4, p * 6 + 4, none⟩ = some (.int .u32 y.yours) := s0.1 4 _ rfl
        have hy5 : w'.cell? ⟨g4, p * 6 + 5, none⟩ = some (.slice Ay y.body.length cy) := s0.1 5 _ rfl
        have hy00 : w'.cell? ⟨g4, p * 6, none⟩ = some (.int .i64 y.kind) := s0.1 0 _ rfl
        clear s0
        go_simp
        try rfl
       rotate_left
       ·simp only [Act.put, List.setIfInBounds_toArray, List.set_cons_zero, List.set_cons_succ]
        rfl
       refine take_ (i := 9) (N := some 53) (v := ?_) (a' := ?_) #[true, true, true, true, true, true, true, true, true, true, false, false, false] rfl rfl (by kernel_rfl) (fun _ _ _ h => h) (Or.inl ⟨by rfl, ?_⟩) hHeld ?_ ?_
       rotate_left
       ·intro w' s0
        have hu67 := Try.underlying67
        have hx0 : w'.cell? ⟨wi.heap.size, 0, none⟩ = some (.int .i64 x.kind) := (blk_cell s0.2 0).trans rfl
        have hx1 : w'.cell? ⟨wi.heap.size, 1, none⟩ = some (.int .u32 x.boot) := (blk_cell s0.2 1).trans rfl
        have hx2 : w'.cell? ⟨wi.heap.size, 2, none⟩ = some (.int .u32 x.mine) := (blk_cell s0.2 2).trans rfl
        have hx3 : w'.cell? ⟨wi.heap.size, 3, none⟩ = some (.int .u32 x.peer) := (blk_cell s0.2 3).trans rfl
        have hx4 : w'.cell? ⟨wi.heap.size, 4, none⟩ = some (.int .u32 x.yours) := (blk_cell s0.2 4).trans rfl
        have hx5 : w'.cell? ⟨wi.heap.size, 5, none⟩ = some (.slice Ab x.body.length cb) := (blk_cell s0.2 5).trans rfl
        clear s0
        go_simp
        try rfl
       rotate_left
       ·simp only [Act.put, List.setIfInBounds_toArray, List.set_cons_zero, List.set_cons_succ]
        rfl
       refine last_ (i := 10) (N := some 54) #[true, true, true, true, true, true, true, true, true, true, true, false, false] rfl rfl (by kernel_rfl) (by decide) (fun K hK => ?_)
       refine goes_ Try.func39 (by kernel_rfl) rfl #[.agg #[.int .i64 y.kind, .int .u32 y.boot, .int .u32 y.mine, .int .u32 y.peer, .int .u32 y.yours, .slice Ay y.body.length cy], .agg #[.int .i64 x.kind, .int .u32 x.boot, .int .u32 x.mine, .int .u32 x.peer, .int .u32 x.yours, .slice Ab x.body.length cb]] (by rfl) rfl rfl (by (try simp only [List.map_toArray, List.map_cons, List.map_nil]); first | done | rfl) ?_
       have hc9 := mirror_any w6 y x (.slice Ay y.body.length cy) (.slice Ab x.body.length cb)
       (with_reducible refine hc9.mono ?_)
       clear hc9
       rintro e w7 ⟨rfl, hb7⟩
       refine ⟨_, rfl, ?_⟩
       have HB7 := Lib.hid (HBD.out.trans (hb7.mono HBD.out.size))
       clear hb7 hHeld
       generalize hmb : mirB y x = mb at *
       have HMB := Lib.hid hmb
       clear hmb
       refine hK.out _ _ ?_
       clear hK K
       refine pure_ (i := 11) (N := some 55) (v := ?_) (a' := ?_) #[true, true, true, true, true, true, true, true, true, true, true, true, false] rfl rfl (by kernel_rfl) (fun _ _ _ h => h) (Or.inl ⟨by rfl, ?_⟩) ?_ ?_
       rotate_left
       ·intro w'
        go_simp
        first | done | with_reducible rfl
       rotate_left
       ·simp only [Act.put, List.setIfInBounds_toArray, List.set_cons_zero, List.set_cons_succ]
        rfl
       refine pure_ (i := 12) (N := some 56) (v := ?_) (a' := ?_) #[true, true, true, true, true, true, true, true, true, true, true, true, true] rfl rfl (by kernel_rfl) (fun _ _ _ h => h) (Or.inl ⟨by rfl, ?_⟩) ?_ ?_
       rotate_left
       ·intro w'
        go_simp
        first | done | with_reducible rfl
       rotate_left
       ·simp only [Act.put, List.setIfInBounds_toArray, List.set_cons_zero, List.set_cons_succ]
        rfl
       refine done_ (by kernel_rfl) ?_
       cases mb
       ·have hpx := hpl
        go_wp2_with fail
        go_roundg (nm - (p + 1))
        case measure => have := HMP.out; omega
        case rel => exact ⟨p + 1, rfl, by have := HAP.out; omega, by omega, by first | rfl | simp, fun j h1 h2 => by
         by_cases hjp : j = p
         ·subst hjp; rw [HY.out]; exact HMB.out
         ·exact HNO.out j h1 (by omega), HB5.out.trans (HB7.out.mono HB5.out.size)⟩
       ·have hyes := HYES.out (by first | rfl | trivial)
        have HB47 := Lib.hid (HB49.out.trans (HB7.out.mono HB49.out.size))
        have hcy : ∀ k : Nat, (convert 22 9 (.slice Ay y.body.length cy)).run Try.prog (w7.drewN k) = .ok (.string (strOfNums x.body)) (w7.drewN k) := fun k => by
         have h1 := Kd.C_string (P := Try.prog) (dst := 9) (c := cy) Try.underlying22 Try.underlying5 Try.underlying9 (Kd.C_below (Kd.C_below HCY.out HB7.out) (pw_below_drewN (Below.refl _ _) k))
         rw [hyes.1] at h1
         rw [hyes.1]
         exact h1
        have hcx : ∀ k : Nat, (convert 22 9 (.slice Ab x.body.length cb)).run Try.prog (w7.drewN k) = .ok (.string (strOfNums x.body)) (w7.drewN k) := fun k => Kd.C_string (P := Try.prog) (dst := 9) (c := cb) Try.underlying22 Try.underlying5 Try.underlying9 (Kd.C_below (Kd.C_below HCX.out HB7.out) (pw_below_drewN (Below.refl _ _) k))
        have HORN := Lib.hid hyes.2
        have hy5 : w7.cell? ⟨g4, p * 6 + 5, none⟩ = some (.slice Ay y.body.length cy) := pw_cell_below HB7.out (HRY.out 5 _ rfl)
        have hx5 : w7.cell? ⟨wi.heap.size, 5, none⟩ = some (.slice Ab x.body.length cb) := (blk_cell ((HB7.out.block _ (blk_lt HNX.out)).trans HNX.out) 5).trans rfl
        have hpe : ((p : Int) == (nm : Int)) = false := by simp; omega
        clear hyes
        go_wp2_with fail
        go_quiet (fail)
        rename Nat => nq7
        have hli9 := HLI.out
        rw [HNL.out] at hli9
        go_wp2_with fail
        go_roundg (nl - (i + 1))
        case measure => have := HMQ.out; omega
        case rel => exact ⟨i + 1, p + 1, rfl, by omega, by first | rfl | simp, by first | rfl | simp, HORN.out, bl_drewN HB47.out nq7⟩
     ·have hq4 : (x.kind != 4) = true := by simp [hk4]
      by_cases hk1 : x.kind = 1
      ·have hq1 : (x.kind == 1) = true := by simp [hk1]
       have hst := HOT.out hk4
       rw [if_pos hk1] at hst
       have HST := Lib.hid hst
       clear hst hk1 hk4
       go_wp2_with (first | ((with_reducible refine gate_dst (N := 37) rfl ?_); (refine wpList_load_mid rfl 67 (.tmp 36) rfl g (i * 6) (by first | rfl | (simp; done)) [.int .i64 x.kind, .int .u32 x.boot, .int .u32 x.mine, .int .u32 x.peer, .int .u32 x.yours, .slice Ab x.body.length cb] _ HRG.out Try.underlying67 rfl (by kernel_rfl) ?_)))
       go_roundg (nl - (i + 1))
       case measure => have := HMQ.out; omega
       case rel => exact ⟨i + 1, 0, rfl, by omega, rfl, by first | rfl | simp, HST.out, HB9.out⟩
      ·have hq1 : (x.kind == 1) = false := by simp [hk1]
       have hst := HOT.out hk4
       rw [if_neg hk1] at hst
       have HST := Lib.hid hst
       clear hst hk1 hk4
       go_wp2_with (first | ((with_reducible refine gate_dst (N := 37) rfl ?_); (refine wpList_load_mid rfl 67 (.tmp 36) rfl g (i * 6) (by first | rfl | (simp; done)) [.int .i64 x.kind, .int .u32 x.boot, .int .u32 x.mine, .int .u32 x.peer, .int .u32 x.yours, .slice Ab x.body.length cb] _ HRG.out Try.underlying67 rfl (by kernel_rfl) ?_)))
       go_roundg (nl - (i + 1))
       case measure => have := HMQ.out; omega
       case rel => exact ⟨i + 1, at_, rfl, by omega, rfl, by first | rfl | simp, HST.out, HB9.out⟩
    ·have hd9 : decide ((i : Int) < (nl : Int)) = false := by simp; omega
     have HPW := Lib.hid (HP4.out.sub HBQ.out)
     have hs2 := HLT.out
     go_wp2_with fail
     go_roundg (2 - (s + 1))
     case measure => have := HM.out; omega
     case rel => exact ⟨s + 1, rfl, by omega, by first | rfl | simp, HPW.out⟩
  ·have hd : decide ((s : Int) < 2) = false := by simp; omega
   go_wp2_with fail
   all_goals (go_ret; exact ⟨rfl, HP.out.below⟩)
end Go.Proofs.Ytnkkgofpifhoeaa.Pr
end
section
namespace Go.Proofs.Ytnkkgofpifhoeaa.pairOrder
open Go.ChangeShapes Go.WideShapes Go.ChangeAt Go.RowKit Go.Deep
open Go.ChangeMaps (open_string shut_string)
theorem own : ownKnob Try.prog.godebug = none := by kernel_rfl
theorem laidOut : laidOutB Try.prog = true := by kernel_rfl
set_option maxRecDepth 100000 in
theorem lifted (os : Os) (started : os.Started) (H : Type) (enc : TypeId × Value → H) :
  ReturnsInHanded {} Try.checked os 7 .any (Rows.pairOrderSpec.pre6 enc Try.prog Try.f7 Rows.pairOrderRow.domain false) (Rows.pairOrderSpec.post enc Try.prog Try.f7 false true false false) := by
 refine returnsInHanded_of_change_sized (C := Try.checked) own started (by kernel_rfl) Try.func7
  (ChangeSpec.witness6 (enc := enc) (C := Try.checked) false ⟨#[], #[.slice none 0 0], []⟩ 8 (by kernel_rfl) (by kernel_rfl) (by kernel_rfl) (by kernel_rfl)) ?_
 intro W base args ds gs before hval0 hW hcnd hsz0 _
 have hval : ∀ (j : Nat) t v, Try.f7.params[j]? = some t → args[j]? = some v → Value.okWide Try.prog W .any base t v := hval0
 have hW' := hW
 obtain ⟨p, q, hA0, hV, rfl, hfz, hnd⟩ := hW
 have hA : DataW.TrodAll enc Try.prog W 0 (fun _ => true) true Try.f7.params.toList args.toList ds p := hA0
 rw [Try.params7] at hA hval
 obtain ⟨v0, vs0, d0, ds0, p0, q0, hargs, rfl, rfl, h0, r0⟩ := trodAll_cons hA
 obtain ⟨rfl, rfl, rfl⟩ := trodAll_nil r0
 obtain rfl : args = #[v0] := by cases args; simp_all
 obtain ⟨rfl, rfl⟩ := trodVars_none hV
 obtain ⟨a0, len0, cap0, rfl⟩ := okWide_slice Try.underlying60 (hval 0 60 v0 rfl rfl)
 have k0 := h0
 have lt0 : ∀ x ∈ p0, x.block < W.heap.size := by obtain ⟨m, hm⟩ := k0; exact DataW.trod_lt m _ _ _ hm
 obtain ⟨xs, hC0⟩ : ∃ xs, Pr.act.C W a0 len0 xs := by
  obtain ⟨fuel, hf⟩ := h0
  exact Pr.acts_of_trod hf
 clear hA0 hval0 hsz0
 refine (Pr.po_walk W a0 len0 cap0 xs hC0).mono fun e W' ⟨he, bel⟩ => ?_
 subst he
 exact ⟨_, rfl, _, _, _, [], _, [], hW', trodAll_mk1 (shut_bool Try.underlying4 _), (trodAll_cons_mk (Below.trod laidOut (by kernel_rfl) (of_decide_eq_true (by kernel_rfl)) k0 bel lt0) trodAll_mk0), rfl, bel.frame _, fun h => by cases h⟩
theorem over : Rows.pairOrderRow.holds Try.pinned (OpenSpec.ofChange Rows.pairOrderSpec) :=
 OpenClaim.holds_of_wide 7 Try.f7 rfl rfl rfl rfl rfl rfl rfl ⟨rfl, rfl, rfl, rfl, rfl⟩ rfl rfl rfl rfl rfl (by kernel_rfl) Try.func7 (by kernel_rfl)
  (of_decide_eq_true (by kernel_rfl)) (by unfold Func.isWrapper; first | (rw [if_pos (by decide +kernel)]; kernel_rfl) | (rw [if_neg (by decide +kernel)]; exact ⟨rfl, rfl⟩))
  (fun os started H enc _ => lifted os started H enc)
theorem proved : Rows.PairOrderSaid := over
end Go.Proofs.Ytnkkgofpifhoeaa.pairOrder
namespace Go.Proofs.Ytnkkgofpifhoeaa
theorem pairOrder_holds : Rows.PairOrderSaid := pairOrder.proved
end Go.Proofs.Ytnkkgofpifhoeaa
end
