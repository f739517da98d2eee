/- The law PairSettles holds: whatever a script did to a pair, both ends, opened, are up behind 16 fair rounds and stay so, and have sent all behind 64. For every script that can be read; no condition. -/
import Derived.Test.YtnkkgofpifhoeaaPC6
import Derived.Test.YtnkkgofpifhoeaaRows
import Derived.OpenShut
import Derived.ShutString
import Derived.ChangeOld
import Derived.SizedLaws
set_option linter.unusedSimpArgs false
set_option linter.unusedVariables false
section
namespace Go.Proofs.Ytnkkgofpifhoeaa.Pr
open Go.RowKit Go.Proofs.Ytnkkgofpifhoeaa.Base Go.Proofs.Ytnkkgofpifhoeaa.Steps Go.Proofs.Ytnkkgofpifhoeaa.Lk Go.Proofs.Ytnkkgofpifhoeaa.Win Go.Proofs.YtnkkgofpifhoeaaW.PrintWords Go.Proofs.YtnkkgofpifhoeaaW.PrintLast
def opS : Nat → Pr → Pr
 | 0, X => X
 | s + 1, X => opX (opS s X) s
theorem opS_two (l : List Act) : opS 2 (runX newX l) = scX l := rfl
theorem opS_ri {l : List Act} (hl : l.length ≤ 400) : ∀ s, s ≤ 2 → RI (opS s (runX newX l)) (l.length + s)
 | 0, _ => by
  have := ri_run l ri_new (by omega)
  rwa [Nat.zero_add] at this
 | s + 1, h => (op_do (opS_ri hl s (by omega)) (by omega) (by omega)).1
theorem rj_rounds (j : Nat) : ∀ {X : Pr} {N : Nat}, RJ X N → Live X → N + j * 1026 < 4294967295 → RJ (rounds j X) (N + j * 1026) ∧ Live (rounds j X) := by
 induction j with
 | zero => intro X N h hl hN; exact ⟨by rw [Nat.zero_mul]; exact h, hl⟩
 | succ j ih =>
  intro X N h hl hN
  have hN' : N + 1026 < 4294967295 := by omega
  obtain ⟨a, b, _⟩ := round_ind (P := fun _ _ _ => True) h hN' hl (fun _ _ _ _ _ _ _ _ _ => trivial) trivial
  obtain ⟨c, d⟩ := ih a b (by omega)
  rw [show N + 1026 + j * 1026 = N + (j + 1) * 1026 by omega] at c
  exact ⟨c, d⟩
theorem RJ.inv {X : Pr} {N : Nat} (h : RJ X N) : Inv X N := by
 obtain ⟨M, hM, hr⟩ := h
 exact ⟨hr.inv.p.more hM, hr.inv.out⟩
theorem rounds_succ' (n : Nat) (X : Pr) : rounds (n + 1) X = roundX (rounds n X) := by rw [rounds_add]; rfl
theorem sc_inv {l : List Act} (hl : l.length ≤ 400) (j : Nat) (hj : j ≤ 64) : Inv (rounds j (scX l)) (402 + j * 1026) := by
 obtain ⟨a, b, c, d⟩ := sc_rk hl
 exact (rj_rounds j (N := 402) ⟨l.length + 2, by omega, a⟩ c (by omega)).1.inv
section
variable {w0 wr : World} {gp : Nat} {X : Pr} (h : PP w0 gp X wr)
include h
theorem up0_pp (hj : Jn X) : Calls Try.prog 40 #[.pointer (some ⟨gp, 0, none⟩), .int .i64 0] wr fun e w' => e = .returned (.int .i64 2) ∧ wr = w' :=
 (phase_pp h 0 (by decide)).mono fun e w' hq => ⟨hq.1.trans (by rw [show (X.sd 0).end_.phase = 2 from hj.1]), hq.2⟩
theorem up1_pp (hj : Jn X) : Calls Try.prog 40 #[.pointer (some ⟨gp, 0, none⟩), .int .i64 1] wr fun e w' => e = .returned (.int .i64 2) ∧ wr = w' :=
 (phase_pp h 1 (by decide)).mono fun e w' hq => ⟨hq.1.trans (by rw [show (X.sd 1).end_.phase = 2 from hj.2]), hq.2⟩
theorem que0_pp (hj : qN 0 X = 0) : Calls Try.prog 47 #[.pointer (some ⟨gp, 0, none⟩), .int .i64 0] wr fun e w' => e = .returned (.int .i64 0) ∧ wr = w' :=
 (queue_pp h 0 (by decide)).mono fun e w' hq => ⟨hq.1.trans (by rw [show (X.sd 0).end_.queue.length = 0 from hj]; rfl), hq.2⟩
theorem que1_pp (hj : qN 1 X = 0) : Calls Try.prog 47 #[.pointer (some ⟨gp, 0, none⟩), .int .i64 1] wr fun e w' => e = .returned (.int .i64 0) ∧ wr = w' :=
 (queue_pp h 1 (by decide)).mono fun e w' hq => ⟨hq.1.trans (by rw [show (X.sd 1).end_.queue.length = 0 from hj]; rfl), hq.2⟩
end
set_option maxRecDepth 100000 in
set_option maxHeartbeats 4000000 in
theorem ps_walk (w : World) (A : Option Addr) (n c : Nat) (sc : List Act) (hC : act.C w A n sc) : Calls Try.prog 11 #[.slice A n c] w fun e w' => e = .returned (.bool true) ∧ Below w.heap.size w w' := by
 have H := Lib.hid hC
 clear hC
 go_enter Try.func11, Try.ntmps11
 go_wp2_with (first | (go_at_call 35; (have hc := alive12 w); (with_reducible refine hc.mono ?_); clear hc; rintro e w1 ⟨rfl, hb1⟩; (have HB1 := Lib.hid hb1); clear hb1))
 have hf1 := fits_w w1 A n c sc (act_C_below H.out HB1.out)
 have HF := Lib.hid hf1
 clear hf1
 go_wp2_with (go_at_call 36; (have hc := HF.out); (with_reducible refine hc.mono ?_); clear hc; rintro e w9 ⟨⟨bf, rfl, hbf⟩, rfl⟩; (have HBF := Lib.hid hbf); (clear hbf); (cases bf))
 any_goals (go_ret; exact ⟨rfl, HB1.out⟩)
 have hfit := HBF.out (by first | rfl | trivial)
 have hrun := run_w w w1 HB1.out A n c sc H.out hfit
 have HRUN := Lib.hid hrun
 have HLN := Lib.hid hfit.1
 clear hrun hfit HBF
 go_wp2_with (go_at_call 37; (have hc := HRUN.out); (with_reducible refine hc.mono ?_); clear hc; rintro e w2 ⟨gp, rfl, hP, hgp⟩; (have HP0 := Lib.hid hP); clear hP hgp)
 have HRI := Lib.hid (opS_ri HLN.out)
 have HINV := Lib.hid (sc_inv HLN.out)
 have HST := Lib.hid (settles HLN.out 0 (by decide)).2
 have HSC := Lib.hid (opS_two sc)
 generalize runX newX sc = X0 at *
 generalize scX sc = X at *
 go_loopg [4] 2 (fun m v wr => ∃ s : Nat, m = 2 - s ∧ s ≤ 2 ∧ v = .int .i64 (s : Int) ∧ PP w gp (opS s X0) wr)
 case atStart => exact ⟨0, rfl, by decide, rfl, HP0.out⟩
 case round =>
  obtain ⟨wo, rfl⟩ : ∃ wo : World, wo = wr := ⟨_, rfl⟩
  obtain ⟨s, hm, hsn, rfl, hP⟩ := hrel
  have HM := Lib.hid hm
  have HS := Lib.hid hsn
  have HP := Lib.hid hP
  clear hm hsn hP
  by_cases hlt : s < 2
  ·have hd : decide ((s : Int) < 2) = true := by simp; omega
   have HLT := Lib.hid hlt
   have HPH := Lib.hid (phase_pp HP.out s hlt)
   have hri := HRI.out s (by omega)
   have HDO := Lib.hid (act0_pp HP.out hri.inv (by have := HLN.out; omega) 1 s 0 (by decide))
   have hex : ∃ ph : Int, ((opS s X0).sd s).end_.phase = ph := ⟨_, rfl⟩
   obtain ⟨ph, hph⟩ := hex
   by_cases h0 : ph = 0
   ·have hd0 : (ph == 0) = true := by simp [h0]
    have HE := Lib.hid (show doX (opS s X0) ⟨1, (s : Int), 0, []⟩ = opS (s + 1) X0 from by
     show _ = opX (opS s X0) s
     unfold opX Pr.en
     rw [if_pos (by rw [hph]; exact h0)])
    rw [hph] at HPH
    clear hph h0 hri
    go_wp2_with (first | (go_at_call 40; (have hc := HPH.out); (with_reducible refine hc.mono ?_); clear hc; rintro e w9 ⟨rfl, rfl⟩) | (go_at_call 41; (have hc := HDO.out); (with_reducible refine hc.mono ?_); clear hc; rintro e w3 ⟨⟨E3, rfl⟩, hP3⟩; (rw [HE.out] at hP3); (have HP3 := Lib.hid hP3); clear hP3))
    go_roundg (2 - (s + 1))
    case measure => have := HM.out; have := HLT.out; omega
    case rel => exact ⟨s + 1, rfl, by have := HLT.out; omega, by first | rfl | simp, HP3.out⟩
   ·have hd0 : (ph == 0) = false := by simp [h0]
    have HE := Lib.hid (show opS s X0 = opS (s + 1) X0 from by
     show _ = opX (opS s X0) s
     unfold opX Pr.en
     rw [if_neg (by rw [hph]; exact h0)])
    rw [hph] at HPH
    clear hph h0 hri
    go_wp2_with (first | (go_at_call 40; (have hc := HPH.out); (with_reducible refine hc.mono ?_); clear hc; rintro e w9 ⟨rfl, rfl⟩))
    go_roundg (2 - (s + 1))
    case measure => have := HM.out; have := HLT.out; omega
    case rel => exact ⟨s + 1, rfl, by have := HLT.out; omega, by first | rfl | simp, by rw [← HE.out]; exact HP.out⟩
  ·have hd : decide ((s : Int) < 2) = false := by simp; omega
   have hs2 : s = 2 := by have := HS.out; omega
   subst hs2
   have hp := HP.out
   rw [HSC.out] at hp
   have HPX := Lib.hid hp
   clear hp
   go_wp2_with fail
   go_loopg [5] 64 (fun m v wr => ∃ i : Nat, m = 65 - i ∧ 1 ≤ i ∧ i ≤ 65 ∧ v = .int .i64 (i : Int) ∧ PP w gp (rounds (i - 1) X) wr)
   case atStart => exact ⟨1, rfl, by decide, by decide, rfl, HPX.out⟩
   case round =>
    obtain ⟨i, hm, hi1, hi2, rfl, hP⟩ := hrel
    have HMI := Lib.hid hm
    have HI1 := Lib.hid hi1
    have HI2 := Lib.hid hi2
    have HPI := Lib.hid hP
    clear hm hi1 hi2 hP
    by_cases hli : i ≤ 64
    ·have hd9 : decide ((i : Int) ≤ 64) = true := by simp; omega
     have h1 := HI1.out
     have HRD := Lib.hid (round_pp HPI.out (HINV.out (i - 1) (by omega)) (by omega))
     have HLI := Lib.hid hli
     have HE := Lib.hid (show roundX (rounds (i - 1) X) = rounds i X from by rw [← rounds_succ', show i - 1 + 1 = i by omega])
     clear h1
     by_cases h16 : 16 ≤ i
     ·have hd16 : decide ((i : Int) ≥ 16) = true := by simp; omega
      have HJ := Lib.hid (HST.out.1 i (by omega) HLI.out)
      go_wp2_with (first | (go_at_call 42; (have hc := HRD.out); (with_reducible refine hc.mono ?_); clear hc; rintro e w3 ⟨rfl, hP3⟩; (rw [HE.out] at hP3); (have HP3 := Lib.hid hP3); (have HA3 := Lib.hid (up0_pp HP3.out HJ.out)); (have HB3 := Lib.hid (up1_pp HP3.out HJ.out)); clear hP3) | (go_at_call 40; (have hc := HA3.out); (with_reducible refine hc.mono ?_); clear hc; rintro e w9 ⟨rfl, rfl⟩) | (go_at_call 40; (have hc := HB3.out); (with_reducible refine hc.mono ?_); clear hc; rintro e w9 ⟨rfl, rfl⟩))
      go_roundg (65 - (i + 1))
      case measure => have := HMI.out; have := HLI.out; omega
      case rel => exact ⟨i + 1, rfl, by omega, by have := HLI.out; omega, by first | rfl | simp, HP3.out⟩
     ·have hd16 : decide ((i : Int) ≥ 16) = false := by simp; omega
      go_wp2_with (first | (go_at_call 42; (have hc := HRD.out); (with_reducible refine hc.mono ?_); clear hc; rintro e w3 ⟨rfl, hP3⟩; (rw [HE.out] at hP3); (have HP3 := Lib.hid hP3); clear hP3))
      go_roundg (65 - (i + 1))
      case measure => have := HMI.out; have := HLI.out; omega
      case rel => exact ⟨i + 1, rfl, by omega, by have := HLI.out; omega, by first | rfl | simp, HP3.out⟩
    ·have hd9 : decide ((i : Int) ≤ 64) = false := by simp; omega
     have hie : i - 1 = 64 := by have := HI2.out; omega
     have hp := HPI.out
     rw [hie] at hp
     have HA := Lib.hid (que0_pp hp (HST.out.2.2.2 0 (by decide)))
     have HB := Lib.hid (que1_pp hp (HST.out.2.2.2 1 (by decide)))
     have HBL := Lib.hid hp.below
     clear hp hie
     go_wp2_with (first | (go_at_call 47; (have hc := HA.out); (with_reducible refine hc.mono ?_); clear hc; rintro e w9 ⟨rfl, rfl⟩) | (go_at_call 47; (have hc := HB.out); (with_reducible refine hc.mono ?_); clear hc; rintro e w9 ⟨rfl, rfl⟩))
     all_goals (go_ret; exact ⟨rfl, HBL.out⟩)
end Go.Proofs.Ytnkkgofpifhoeaa.Pr
end
section
namespace Go.Proofs.Ytnkkgofpifhoeaa.pairSettles
open Go.ChangeShapes Go.WideShapes Go.ChangeAt Go.RowKit Go.Deep
open Go.ChangeMaps (open_string shut_string)
theorem own : ownKnob Try.prog.godebug = none := by kernel_rfl
theorem laidOut : laidOutB Try.prog = true := by kernel_rfl
set_option maxRecDepth 100000 in
theorem lifted (os : Os) (started : os.Started) (H : Type) (enc : TypeId × Value → H) :
  ReturnsInHanded {} Try.checked os 11 .any (Rows.pairSettlesSpec.pre6 enc Try.prog Try.f11 Rows.pairSettlesRow.domain false) (Rows.pairSettlesSpec.post enc Try.prog Try.f11 false true false false) := by
 refine returnsInHanded_of_change_sized (C := Try.checked) own started (by kernel_rfl) Try.func11
  (ChangeSpec.witness6 (enc := enc) (C := Try.checked) false ⟨#[], #[.slice none 0 0], []⟩ 8 (by kernel_rfl) (by kernel_rfl) (by kernel_rfl) (by kernel_rfl)) ?_
 intro W base args ds gs before hval0 hW hcnd hsz0 _
 have hval : ∀ (j : Nat) t v, Try.f11.params[j]? = some t → args[j]? = some v → Value.okWide Try.prog W .any base t v := hval0
 have hW' := hW
 obtain ⟨p, q, hA0, hV, rfl, hfz, hnd⟩ := hW
 have hA : DataW.TrodAll enc Try.prog W 0 (fun _ => true) true Try.f11.params.toList args.toList ds p := hA0
 rw [Try.params11] at hA hval
 obtain ⟨v0, vs0, d0, ds0, p0, q0, hargs, rfl, rfl, h0, r0⟩ := trodAll_cons hA
 obtain ⟨rfl, rfl, rfl⟩ := trodAll_nil r0
 obtain rfl : args = #[v0] := by cases args; simp_all
 obtain ⟨rfl, rfl⟩ := trodVars_none hV
 obtain ⟨a0, len0, cap0, rfl⟩ := okWide_slice Try.underlying60 (hval 0 60 v0 rfl rfl)
 have k0 := h0
 have lt0 : ∀ x ∈ p0, x.block < W.heap.size := by obtain ⟨m, hm⟩ := k0; exact DataW.trod_lt m _ _ _ hm
 obtain ⟨xs, hC0⟩ : ∃ xs, Pr.act.C W a0 len0 xs := by
  obtain ⟨fuel, hf⟩ := h0
  exact Pr.acts_of_trod hf
 clear hA0 hval0 hsz0
 refine (Pr.ps_walk W a0 len0 cap0 xs hC0).mono fun e W' ⟨he, bel⟩ => ?_
 subst he
 exact ⟨_, rfl, _, _, _, [], _, [], hW', trodAll_mk1 (shut_bool Try.underlying4 _), (trodAll_cons_mk (Below.trod laidOut (by kernel_rfl) (of_decide_eq_true (by kernel_rfl)) k0 bel lt0) trodAll_mk0), rfl, bel.frame _, fun h => by cases h⟩
theorem over : Rows.pairSettlesRow.holds Try.pinned (OpenSpec.ofChange Rows.pairSettlesSpec) :=
 OpenClaim.holds_of_wide 11 Try.f11 rfl rfl rfl rfl rfl rfl rfl ⟨rfl, rfl, rfl, rfl, rfl⟩ rfl rfl rfl rfl rfl (by kernel_rfl) Try.func11 (by kernel_rfl)
  (of_decide_eq_true (by kernel_rfl)) (by unfold Func.isWrapper; first | (rw [if_pos (by decide +kernel)]; kernel_rfl) | (rw [if_neg (by decide +kernel)]; exact ⟨rfl, rfl⟩))
  (fun os started H enc _ => lifted os started H enc)
theorem proved : Rows.PairSettlesSaid := over
end Go.Proofs.Ytnkkgofpifhoeaa.pairSettles
namespace Go.Proofs.Ytnkkgofpifhoeaa
theorem pairSettles_holds : Rows.PairSettlesSaid := pairSettles.proved
end Go.Proofs.Ytnkkgofpifhoeaa
end
