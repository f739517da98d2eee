/- The law of the queue, walked. -/
import Derived.Test.YtnkkgofpifhoeaaLk21
import Derived.Deep.LoopGhost
import Derived.Deep.Cut
import Derived.Deep.CutBlock
namespace Go.Proofs.Ytnkkgofpifhoeaa.Lk
open Go.RowKit Go.Proofs.Ytnkkgofpifhoeaa.Base Go.Proofs.Ytnkkgofpifhoeaa.Steps Go.Proofs.YtnkkgofpifhoeaaW.PrintWords Go.Proofs.YtnkkgofpifhoeaaW.PrintLast
set_option linter.unusedSimpArgs false
set_option linter.unusedVariables false
theorem fine_swap {A D : Lk} (hA : A.Fine) (hD : D.Fine) : A.Ok ∧ D.Ok ∧ (∀ p ∈ A.out, p.Good) ∧ (∀ p ∈ (feed 1 D A.out).out, p.Good) := ⟨hA.ok, hD.ok, hA.good, (feed_fine (b := 1) (by decide) hA.good hD).good⟩
/-- A signal of those handed in: its header and its bytes. -/
theorem arg_at {w : World} {A : Option Addr} {xs : List (List Int)} (h : bytes.C w A xs.length xs) (i : Nat) (hi : i < xs.length) : ∃ ad A' c', A = some ad ∧ w.cell? (ad.add i) = some (.slice A' (xs.getD i []).length c') ∧ (Kd.int .u8).C w A' (xs.getD i []).length (xs.getD i []) := by
  obtain ⟨ad, c, hA, hl, hK, hc⟩ := Kd.C_get h [] (i : Int) (by omega) (by omega)
  rw [Int.toNat_natCast] at hK hc
  obtain ⟨A', c', hcs, _, hC⟩ := hK
  subst hcs
  refine ⟨ad, A', c', hA, ?_, hC⟩
  have := hc 0 _ rfl
  rwa [show Kd.sz bytes = 1 from rfl, Nat.mul_one, Nat.add_zero] at this
/-- Where the loop of the sends stands. -/
def SL (w : World) (B ga gb : Nat) (wv : Value) (wr : World) : Prop := ∃ oa ob okw ts W, LQ w B ga gb oa ob okw (st W 0) (bS 0 []) W wv ts wr ∧ (st W 0).Fine ∧ W.length ≤ 64 ∧ ∀ b ∈ W, ¬ (b.length = 0 ∨ 1000 < b.length)
def MI (w : World) (B ga gb : Nat) (W : List (List Int)) (wv : Value) (ts : List (Option Addr × Nat × Nat)) (i : Nat) (wr : World) : Prop :=
  ∃ oa ob okw, LQ w B ga gb oa ob okw (st W (pos W.length i)) (bS (pos W.length i) []) W wv ts wr ∧ (st W (pos W.length i)).Fine ∧ (bS (pos W.length i) []).Fine
theorem round_a {W : List (List Int)} {m s : Nat} (hs : s = min 8 (W.length - m)) : feed 1 (outL (st W m)) (acks m s) = st W (m + s) := by
  have h := round_st W m
  rw [← hs] at h
  have h1 : (st W m).out = outA W m s := by rw [hs]; rfl
  unfold swapF at h
  rw [h1, feed_b W m s (by omega)] at h
  exact congrArg Prod.fst h
theorem upE_st : upE = st [] 0 := by rfl
theorem upE_bS : upE = bS 0 [] := by rfl
set_option maxRecDepth 100000 in
set_option maxHeartbeats 8000000 in
theorem lq_walk (w : World) (A0 : Option Addr) (c0 : Nat) (xs : List (List Int)) (hC : bytes.C w A0 xs.length xs) (stop : Int) :
    Calls Try.prog 6 #[.slice A0 xs.length c0, .int .i64 stop] w fun e w' => e = .returned (.bool true) ∧ Below w.heap.size w w' := by
  obtain ⟨B, hB⟩ : ∃ B, B = w.heap.size := ⟨_, rfl⟩
  rw [← hB]
  have HBE := Lib.hid hB
  have HB0 := Lib.hid (Nat.le_of_eq hB)
  have HC := Lib.hid hC
  clear hB hC
  generalize hn0 : xs.length = n0 at *
  have HN0 := Lib.hid hn0
  clear hn0
  go_enter Try.func6, Try.ntmps6
  go_wp2_with (first | (go_at_call 25; (have hc := alive11 w B HB0.out); (with_reducible refine hc.mono ?_); clear hc; rintro e wal ⟨rfl, hb⟩; (have HWL := Lib.hid hb); (have HB1 := Lib.hid (Nat.le_trans HB0.out hb.size)); clear hb) | (go_at_call 26; (have hc := new_of 1 (by decide) wal B HB1.out); (with_reducible refine hc.mono ?_); clear hc; rintro e wn1 ⟨rfl, h1, b1⟩; (have N1 := Lib.hid h1); (have NB1 := Lib.hid b1); clear h1 b1) | (go_at_call 26; (have hc := new_of 1 (by decide) wn1 B (Nat.le_trans HB1.out NB1.out.size)); (with_reducible refine hc.mono ?_); clear hc; rintro e wn2 ⟨rfl, h1, b1⟩; (have N2 := Lib.hid (⟨_, _, (two_new HB1.out N1.out NB1.out h1 b1).1, HWL.out.trans (two_new HB1.out N1.out NB1.out h1 b1).2⟩ : TwoB w B wal.heap.size wn1.heap.size (newL 1) (newL 1) wn2)); clear h1 b1) | (go_at_call 27; (obtain ⟨oa, ob, hT, hb⟩ := N2.out); (have hc := open_new hT.a (two_B hT)); (with_reducible refine hc.mono ?_); clear hc; rintro e wo1 ⟨rfl, ht⟩; (have O1 := Lib.hid (⟨_, _, hT.left ht, hb.trans ht.2.2⟩ : TwoB w B wal.heap.size wn1.heap.size openN (newL 1) wo1)); clear ht hT hb) | (go_at_call 27; (obtain ⟨oa, ob, hT, hb⟩ := O1.out); (have hc := open_new hT.b (two_B hT)); (with_reducible refine hc.mono ?_); clear hc; rintro e wo2 ⟨rfl, ht⟩; (have O2 := Lib.hid (⟨_, _, hT.right ht, hb.trans ht.2.2⟩ : TwoB w B wal.heap.size wn1.heap.size openN openN wo2)); clear ht hT hb))
  go_loopg [9] 4 (fun m v wr => ∃ i : Nat, m = 4 - i ∧ i ≤ 4 ∧ v = .int .i64 (i : Int) ∧ TwoB w B wal.heap.size wn1.heap.size (it i).1 (it i).2 wr)
  case atStart => exact ⟨0, rfl, by decide, rfl, O2.out⟩
  case round =>
    obtain ⟨i, hm, hin, rfl, oa, ob, hT, hb⟩ := hrel
    have HM := Lib.hid hm
    have HIN := Lib.hid hin
    have HT0 := Lib.hid hT
    have HBL0 := Lib.hid hb
    clear hm hin hT hb
    by_cases hlt : (i : Int) < 4
    · have hd : decide ((i : Int) < 4) = true := by simp; omega
      have HLT := Lib.hid hlt
      have FS := Lib.hid (fine_swap (it_fine i).1 (it_fine i).2)
      go_wp2_with (go_at_call 28; (have hc := swap_of HT0.out FS.out.1 FS.out.2.1 FS.out.2.2.1 FS.out.2.2.2); (with_reducible refine hc.mono ?_); clear hc; rintro e wz ⟨rfl, ⟨oa', ob', hT', hb'⟩⟩; (have HZ := Lib.hid (⟨oa', ob', hT', HBL0.out.trans hb'⟩ : TwoB w B wal.heap.size wn1.heap.size (it (i + 1)).1 (it (i + 1)).2 wz)); clear hT' hb')
      go_roundg (4 - (i + 1))
      case measure => have := HM.out; have := HLT.out; omega
      case rel => exact ⟨i + 1, rfl, by have := HLT.out; omega, by first | rfl | simp, HZ.out⟩
    · have hi4 : i = 4 := by have := HIN.out; omega
      subst hi4
      have hd : decide (((4 : Nat) : Int) < 4) = false := by decide
      have HT4 := Lib.hid (show Two wr B oa ob wal.heap.size wn1.heap.size upE upE from by have := HT0.out; rwa [it4] at this)
      clear HT0 hlt
      go_upto_block 2 with (first | (go_at_call 29; (have hc := phase_end HT4.out.a); (with_reducible refine hc.mono ?_); clear hc; rintro e w9 ⟨rfl, rfl⟩; rw [show upE.phase = 2 from rfl]) | (go_at_call 29; (have hc := phase_end HT4.out.b); (with_reducible refine hc.mono ?_); clear hc; rintro e w9 ⟨rfl, rfl⟩; rw [show upE.phase = 2 from rfl]))
      go_cut [10, 11, 12, 13] from 23 (fun s10 s11 s12 s13 wc => SL w B wal.heap.size wn1.heap.size s10 wc)
      case first =>
        go_wp2_with fail
        have S0 := Lib.hid (⟨oa, ob, fun _ => False, [], [], ⟨HT4.out, Kd.R_nil _ _ _ _ _, fun k hk => hk.elim, ⟨rfl, fun j hj => absurd hj (Nat.not_lt_zero j)⟩, HBL0.out⟩, upE_st ▸ upE_fine, Nat.zero_le _, fun b hb => absurd hb (List.not_mem_nil)⟩ : SL w B wal.heap.size wn1.heap.size (.slice none 0 0) wr)
        clear HT4 HBL0 hd HIN HM
        go_loopg [10, 11] (80 + 1) (fun m wv v wr => ∃ i : Nat, m = 80 + 1 - i ∧ i ≤ 80 ∧ i ≤ n0 ∧ v = .int .i64 (i : Int) ∧ SL w B wal.heap.size wn1.heap.size wv wr)
        case atStart => exact ⟨0, rfl, by decide, Nat.zero_le _, rfl, S0.out⟩
        case round =>
          obtain ⟨i, hm, hin, hin0, rfl, oa, ob, okw, ts, W, hLQ, hF, hW, hWb⟩ := hrel
          have HM := Lib.hid hm
          have HIN := Lib.hid hin
          have HIN0 := Lib.hid hin0
          have HLQ := Lib.hid hLQ
          have HF := Lib.hid hF
          have HW := Lib.hid hW
          have HWB := Lib.hid hWb
          clear hm hin hin0 hF hW hWb
          obtain ⟨Aw, cw, hwv⟩ := Kd.R_slice hLQ.want
          rw [hLQ.tell.1] at hwv
          subst hwv
          clear hLQ
          by_cases hgo : (i : Int) < (n0 : Int) ∧ (i : Int) < 80
          · have hd1 : decide ((i : Int) < (n0 : Int)) = true := by simp; omega
            have hd2 : decide ((i : Int) < 80) = true := by simp; omega
            have HGO := Lib.hid hgo
            have hCw : bytes.C w A0 xs.length xs := by have := HC.out; rwa [← HN0.out] at this
            obtain ⟨ad, Ai, ci, hA0, hcell, hCi⟩ := arg_at hCw i (by have := HN0.out; omega)
            subst hA0
            have HBW := Lib.hid (show Below w.heap.size w wr from HBE.out ▸ HLQ.out.below)
            have HCELL := Lib.hid hcell
            have HCI := Lib.hid hCi
            have hcr : wr.cell? (ad.add i) = some (.slice Ai (xs.getD i []).length ci) := cell_kept hcell (Kept.of_below HBW.out (fun _ => False)) (fun h => h)
            clear hCw hCi hcell
            generalize hbd : xs.getD i [] = bd at *
            clear hbd
            generalize hbl : bd.length = nb at *
            have HBLN := Lib.hid hbl
            clear hbl
            generalize hWl : W.length = nW at *
            have HWL2 := Lib.hid hWl
            clear hWl
            have hi80 := hgo.2
            have hin0 := hgo.1
            have hc64 := HW.out
            clear hgo
            have hse := sendE_st W nb
            rw [HWL2.out] at hse
            have HSC := Lib.hid (send_end HLQ.out.two.a (two_B HLQ.out.two) HF.out.ok bd Ai ci (Kd.C_below (by have := HCI.out; rwa [← HBLN.out] at this) HBW.out))
            have hqz : ∀ W' : List (List Int), (st W' 0).queue.length = W'.length := fun W' => by show (W'.drop 0).length = _; rw [List.drop_zero]
            have HQZ := Lib.hid hqz
            clear hqz
            by_cases hlong : nb = 0 ∨ 1000 < nb
            · rw [if_pos hlong] at hse
              have HSE := Lib.hid hse
              have HSL := Lib.hid (send_st_no (W := W) (b := bd) (.inl (by rw [HBLN.out]; exact hlong)))
              clear hse
              rcases Nat.eq_zero_or_pos nb with hnz | hnz
              · have hd3 : ((nb : Int) == 0) = true := by simp [hnz]
                have HNZ := Lib.hid hnz
                clear hnz hlong
                go_wp2_with (first | (go_at_call 30; (have hc := HSC.out); rw [HBLN.out] at hc; (with_reducible refine hc.mono ?_); clear hc; rintro e ws ⟨rfl, ht⟩; rw [HSE.out]; rw [HSL.out] at ht; (have HL2 := Lib.hid (HLQ.out.left ht)); (have HBW2 := Lib.hid (show Below w.heap.size w ws from HBE.out ▸ HL2.out.below)); (have hcs : ws.cell? (ad.add i) = some (.slice Ai nb ci) := cell_kept HCELL.out (Kept.of_below HBW2.out (fun _ => False)) (fun h => h)); (clear ht hcr)) | (go_at_call 31; (have hc := queue_end HL2.out.two.a); (with_reducible refine hc.mono ?_); clear hc; rintro e w9 ⟨rfl, rfl⟩; rw [HQZ.out, HWL2.out]))
                go_roundg (80 + 1 - (i + 1))
                case measure => have := HM.out; omega
                case rel => exact ⟨i + 1, rfl, by omega, by have := HGO.out.1; omega, by first | rfl | simp, _, _, _, _, W, HL2.out, HF.out, by rw [HWL2.out]; exact HW.out, HWB.out⟩
              · have hd3 : ((nb : Int) == 0) = false := by simp; omega
                have hd4 : decide ((nb : Int) > 1000) = true := by simp; omega
                clear hnz hlong
                go_wp2_with (first | (go_at_call 30; (have hc := HSC.out); rw [HBLN.out] at hc; (with_reducible refine hc.mono ?_); clear hc; rintro e ws ⟨rfl, ht⟩; rw [HSE.out]; rw [HSL.out] at ht; (have HL2 := Lib.hid (HLQ.out.left ht)); (have HBW2 := Lib.hid (show Below w.heap.size w ws from HBE.out ▸ HL2.out.below)); (have hcs : ws.cell? (ad.add i) = some (.slice Ai nb ci) := cell_kept HCELL.out (Kept.of_below HBW2.out (fun _ => False)) (fun h => h)); (clear ht hcr)) | (go_at_call 31; (have hc := queue_end HL2.out.two.a); (with_reducible refine hc.mono ?_); clear hc; rintro e w9 ⟨rfl, rfl⟩; rw [HQZ.out, HWL2.out]))
                go_roundg (80 + 1 - (i + 1))
                case measure => have := HM.out; omega
                case rel => exact ⟨i + 1, rfl, by omega, by have := HGO.out.1; omega, by first | rfl | simp, _, _, _, _, W, HL2.out, HF.out, by rw [HWL2.out]; exact HW.out, HWB.out⟩
            · rw [if_neg hlong] at hse
              have hd3 : ((nb : Int) == 0) = false := by simp; omega
              have hd4 : decide ((nb : Int) > 1000) = false := by simp; omega
              by_cases h64 : 64 ≤ nW
              · rw [if_pos h64] at hse
                have HSE := Lib.hid hse
                have HSL := Lib.hid (send_st_no (W := W) (b := bd) (.inr (by rw [HWL2.out]; exact h64)))
                have hd5 : ((nW : Int) == 64) = true := by simp; omega
                clear hse hlong h64
                go_wp2_with (first | (go_at_call 30; (have hc := HSC.out); rw [HBLN.out] at hc; (with_reducible refine hc.mono ?_); clear hc; rintro e ws ⟨rfl, ht⟩; rw [HSE.out]; rw [HSL.out] at ht; (have HL2 := Lib.hid (HLQ.out.left ht)); (have HBW2 := Lib.hid (show Below w.heap.size w ws from HBE.out ▸ HL2.out.below)); (have hcs : ws.cell? (ad.add i) = some (.slice Ai nb ci) := cell_kept HCELL.out (Kept.of_below HBW2.out (fun _ => False)) (fun h => h)); (clear ht hcr)) | (go_at_call 31; (have hc := queue_end HL2.out.two.a); (with_reducible refine hc.mono ?_); clear hc; rintro e w9 ⟨rfl, rfl⟩; rw [HQZ.out, HWL2.out]))
                go_roundg (80 + 1 - (i + 1))
                case measure => have := HM.out; omega
                case rel => exact ⟨i + 1, rfl, by omega, by have := HGO.out.1; omega, by first | rfl | simp, _, _, _, _, W, HL2.out, HF.out, by rw [HWL2.out]; exact HW.out, HWB.out⟩
              · rw [if_neg h64] at hse
                have HSE := Lib.hid hse
                have HLONG := Lib.hid hlong
                have HSL := Lib.hid (send_st (W := W) (b := bd) (by rw [HBLN.out]; exact hlong) (by rw [HWL2.out]; omega))
                have hd5 : ((nW : Int) == 64) = false := by simp; omega
                have H64 := Lib.hid h64
                have hts := HLQ.out.tell.1
                rw [HWL2.out] at hts
                have HTS := Lib.hid hts
                clear hse hlong hts
                go_wp2_with (first | (go_at_call 30; (have hc := HSC.out); rw [HBLN.out] at hc; (with_reducible refine hc.mono ?_); clear hc; rintro e ws ⟨rfl, ht⟩; rw [HSE.out]; rw [HSL.out] at ht; (have HL2 := Lib.hid (HLQ.out.left ht)); (have HBW2 := Lib.hid (show Below w.heap.size w ws from HBE.out ▸ HL2.out.below)); (have hcs : ws.cell? (ad.add i) = some (.slice Ai nb ci) := cell_kept HCELL.out (Kept.of_below HBW2.out (fun _ => False)) (fun h => h)); (clear ht hcr)) | ((with_reducible refine gate_dst (N := 106) rfl ?_); (refine Kd.R_append (W := ws) (w0 := w) rawK B ?a1 (.tmp 100) (.tmp 105) 45 22 (.slice none 0 0) 24 ?a2 ?a3 ?a4 ?a5 ?a6 ?a7 (.slice Aw nW cw) ts (Ai, nb, ci) [.slice Ai nb ci] (fun k => okw k ∨ ws.heap.size ≤ k) (fun _ => False) ?a8 ?a9 ?b1 ?b2 ?b3 ?b4 ?b5 ?b6 ?b7 ?b8); (case a1 => rfl); (case a2 => rfl); (case a3 => exact Try.underlying45); (case a4 => exact info22); (case a5 => rfl); (case a6 => decide); (case a7 => decide); (case a8 => rfl); (case a9 => rfl); (case b1 => exact rfl); (case b2 => exact fun _ hf => hf.elim); (case b3 => exact fun k hk => .inr hk); (case b4 => exact Kd.R_mono HL2.out.want (fun _ hk => .inl hk)); (case b5 => exact HL2.out.below); (case b6 => exact two_B HL2.out.two); (case b7 => have := HTS.out; have := H64.out; omega); (intro v1 w1 hR hb hg _); (obtain ⟨Aw2, cw2, hv1⟩ := Kd.R_slice hR); (rw [show (ts ++ [(Ai, nb, ci)]).length = nW + 1 by simp [HTS.out]] at hv1); (subst hv1); (have HL3 := Lib.hid (HL2.out.put (b := bd) hR hb hg (by have := Tell.more HL2.out.tell (c := ci) (by have := HCI.out; rwa [← HBLN.out] at this); rwa [HBLN.out] at this))); (clear hR hb hg)) | (go_at_call 31; (have hc := queue_end HL3.out.two.a); (with_reducible refine hc.mono ?_); clear hc; rintro e w9 ⟨rfl, rfl⟩; rw [HQZ.out, show (W ++ [bd]).length = nW + 1 by simp [HWL2.out]]))
                go_roundg (80 + 1 - (i + 1))
                case measure => have := HM.out; omega
                case rel => exact ⟨i + 1, rfl, by omega, by have := HGO.out.1; omega, by first | rfl | simp, _, _, _, _, W ++ [bd], HL3.out, HSL.out ▸ sendL_fine HF.out bd, by rw [show (W ++ [bd]).length = nW + 1 by simp [HWL2.out]]; have := H64.out; omega, fun b hb => (List.mem_append.1 hb).elim (HWB.out b) (fun hx => by rw [List.mem_singleton.1 hx, HBLN.out]; exact HLONG.out)⟩
          · have HNG := Lib.hid hgo
            have HS9 := Lib.hid (⟨oa, ob, okw, ts, W, HLQ.out, HF.out, HW.out, HWB.out⟩ : SL w B wal.heap.size wn1.heap.size (.slice Aw W.length cw) wr)
            by_cases hin0 : (i : Int) < (n0 : Int)
            · have hi80 : ¬ (i : Int) < 80 := fun h => HNG.out ⟨hin0, h⟩
              have hd1 : decide ((i : Int) < (n0 : Int)) = true := by simp; omega
              have hd2 : decide ((i : Int) < 80) = false := by simp; omega
              clear hgo
              go_wp2_with fail
              go_meet
              case rel => exact HS9.out
            · have hd1 : decide ((i : Int) < (n0 : Int)) = false := by simp; omega
              clear hgo
              go_wp2_with fail
              go_meet
              case rel => exact HS9.out
      case rest =>
        obtain ⟨oa, ob, okw, ts, W, hLQ, hF, hW, hWb⟩ := hcut
        have HLQ := Lib.hid hLQ
        have HF := Lib.hid hF
        have HW := Lib.hid hW
        have HWB := Lib.hid hWb
        clear hLQ hF hW hWb
        go_step
        go_step
        go_cut [14] from 23 (fun s14 wd => SL w B wal.heap.size wn1.heap.size u10 wd)
        case first =>
          by_cases hs0 : 0 ≤ stop
          · by_cases hs9 : stop < 9
            · have hd1 : decide (stop ≥ 0) = true := by simp [hs0]
              have hd2 : decide (stop < 9) = true := by simp [hs9]
              go_wp2_with (go_at_call 32; (have hc := out_end HLQ.out.two.a); (with_reducible refine hc.mono ?_); clear hc; rintro e wx ⟨ox, okx, rfl, ht, _, _, _⟩; (have HLX := Lib.hid (HLQ.out.left ht)); clear ht)
              go_loopg [14] 3 (fun m v wr => ∃ i : Nat, m = 3 - i ∧ i ≤ 3 ∧ v = .int .i64 (i : Int) ∧ ∃ oa ob okw, LQ w B wal.heap.size wn1.heap.size oa ob okw (tickN i (outL (st W 0))) (bS 0 []) W u10 ts wr)
              case atStart => exact ⟨0, rfl, by decide, rfl, _, _, _, HLX.out⟩
              case round =>
                obtain ⟨i, hm, hin, rfl, oa1, ob1, okw1, hL⟩ := hrel
                have HM := Lib.hid hm
                have HIN := Lib.hid hin
                have HL := Lib.hid hL
                clear hm hin hL
                by_cases hlt : (i : Int) < 3
                · have hd : decide ((i : Int) < 3) = true := by simp; omega
                  have HOK := Lib.hid (tickN_ok (outL_ok HF.out.ok) i)
                  go_wp2_with (go_at_call 33; (have hc := tick_of HL.out.two.a HOK.out (two_B HL.out.two)); (with_reducible refine hc.mono ?_); clear hc; rintro e wy ⟨rfl, ht⟩; (have HLY := Lib.hid (HL.out.left ht)); clear ht)
                  go_roundg (3 - (i + 1))
                  case measure => have := HM.out; omega
                  case rel => exact ⟨i + 1, rfl, by omega, by first | rfl | simp, _, _, _, HLY.out⟩
                · have hi3 : i = 3 := by have := HIN.out; omega
                  subst hi3
                  have hd : decide (((3 : Nat) : Int) < 3) = false := by decide
                  go_wp2_with fail
                  go_meet
                  case rel => exact ⟨_, _, _, _, W, tickN3 W ▸ HL.out, HF.out, HW.out, HWB.out⟩
            · have hd1 : decide (stop ≥ 0) = true := by simp [hs0]
              have hd2 : decide (stop < 9) = false := by simp; omega
              go_wp2_with fail
              go_meet
              case rel => exact ⟨_, _, _, _, W, HLQ.out, HF.out, HW.out, HWB.out⟩
          · have hd1 : decide (stop ≥ 0) = false := by simp; omega
            go_wp2_with fail
            go_meet
            case rel => exact ⟨_, _, _, _, W, HLQ.out, HF.out, HW.out, HWB.out⟩
        case rest =>
          clear HLQ HF HW HWB
          obtain ⟨oa, ob, okw, ts, W, hLQ, hF, hW, hWb⟩ := hcut
          obtain ⟨Aw, cw, hwv⟩ := Kd.R_slice hLQ.want
          rw [hLQ.tell.1] at hwv
          subst hwv
          have S0 := Lib.hid (⟨oa, ob, okw, by rw [show pos W.length 0 = 0 by unfold pos; omega]; exact hLQ, by rw [show pos W.length 0 = 0 by unfold pos; omega]; exact hF, by rw [show pos W.length 0 = 0 by unfold pos; omega]; exact upE_bS ▸ upE_fine⟩ : MI w B wal.heap.size wn1.heap.size W (.slice Aw W.length cw) ts 0 wc)
          have HWB := Lib.hid hWb
          clear hLQ hF hWb
          generalize hnw : W.length = nW at *
          have HNW := Lib.hid hnw
          clear hnw
          go_wp2_with fail
          go_loopg [15, 16] 40 (fun m s15 s16 wr => ∃ i : Nat, m = 40 - i ∧ i ≤ 40 ∧ s16 = .int .i64 (i : Int) ∧ s15 = .int .i64 (pos nW i : Int) ∧ MI w B wal.heap.size wn1.heap.size W (.slice Aw nW cw) ts i wr)
          case atStart => exact ⟨0, rfl, by decide, rfl, by rw [show pos nW 0 = 0 by unfold pos; omega]; rfl, S0.out⟩
          case round =>
            obtain ⟨i, hm, hin, rfl, rfl, oa2, ob2, okw2, hL, hFa, hFb⟩ := hrel
            have HM := Lib.hid hm
            have HIN := Lib.hid hin
            have hp0 : pos nW i ≤ nW := by unfold pos; omega
            have HPS := Lib.hid (pos_succ nW i)
            rw [HNW.out] at hL hFa hFb
            have HP40 := Lib.hid (show i = 40 → pos nW i = nW from fun h => by subst h; unfold pos; omega)
            clear hm hin
            generalize hps : pos nW i = m at *
            have HPP := Lib.hid hps
            clear hps
            by_cases hlt : (i : Int) < 40
            · have hd : decide ((i : Int) < 40) = true := by simp; omega
              obtain ⟨s, hs⟩ : ∃ s, s = min 8 (nW - m) := ⟨_, rfl⟩
              have hsb : s ≤ 8 ∧ m + s ≤ nW := by omega
              have HS := Lib.hid hs
              have hso : (st W m).out = outA W m s := by rw [hs, ← HNW.out]; rfl
              have HL := Lib.hid hL
              have HFA := Lib.hid hFa
              have HFB := Lib.hid hFb
              have HOA := Lib.hid hso
              clear hL hFa hFb hs hso
              go_wp2_with (go_at_call 32; (have hc := out_end HL.out.two.a); (with_reducible refine hc.mono ?_); clear hc; rintro e wx ⟨ox, okx, rfl, ht, hR, hkx, _⟩; rw [HOA.out] at hR; (obtain ⟨Ax, cx, hox⟩ := Kd.R_slice hR); rw [outA_len] at hox; subst hox; (have HX0 := Lib.hid (⟨_, _, _, _, HL.out.left ht, hR, fun k hk => .inl (hkx k hk)⟩ : FQ w B wal.heap.size wn1.heap.size (outL (st W m)) (bS m []) W (.slice Aw nW cw) ts (.slice Ax s cx) (outA W m s) 0 wx)); clear ht hR hkx)
              go_loopg [15, 18] s (fun q s15 s18 wr => ∃ k : Nat, q = s - k ∧ k ≤ s ∧ s18 = .int .i64 (k : Int) ∧ s15 = .int .i64 ((m + k : Nat) : Int) ∧ FQ w B wal.heap.size wn1.heap.size (outL (st W m)) (bS m []) W (.slice Aw nW cw) ts (.slice Ax s cx) (outA W m s) k wr)
              case atStart => exact ⟨0, rfl, Nat.zero_le _, rfl, rfl, HX0.out⟩
              case round =>
                obtain ⟨k, hm, hin, rfl, rfl, hFQ⟩ := hrel
                have HM2 := Lib.hid hm
                have HIN2 := Lib.hid hin
                have HFQ := Lib.hid hFQ
                clear hm hin hFQ
                by_cases hk : (k : Int) < (s : Int)
                · have hdk : decide ((k : Int) < (s : Int)) = true := by simp [hk]
                  obtain ⟨j, hj⟩ : ∃ j, j = m + k := ⟨_, rfl⟩
                  rw [← hj]
                  have HJ := Lib.hid hj
                  obtain ⟨oa3, ob3, okw3, okx3, hLx, hRx, hkx3⟩ := HFQ.out
                  obtain ⟨gx, cs, hAx, hM, hrg, hcl, hnp⟩ := pkt_elem hRx k (by omega)
                  subst hAx
                  rw [outA_get W m s k (by omega), ← hj] at hM
                  have HFE := Lib.hid (show feed 1 (bS m []) ((outA W m s).take k) = bS j (acks m k) by rw [outA_take W m s k (by omega), feed_b W m k (by omega), hj])
                  have HLX := Lib.hid hLx
                  have HRX := Lib.hid hRx
                  have HKX := Lib.hid hkx3
                  have HMM := Lib.hid hM
                  have HRG := Lib.hid hrg
                  have HCL := Lib.hid hcl
                  have HKS := Lib.hid (show k < (outA W m s).length by rw [outA_len]; omega)
                  have HEB := Lib.hid (HFE.out ▸ hLx.two.b : End _ B ob3 wn1.heap.size (bS j (acks m k)))
                  have HOKB := Lib.hid (HFE.out ▸ feed_ok (boot := 1) (by decide) (fun p hp => by have := HFA.out.good; rw [HOA.out] at this; exact this p (List.mem_of_mem_take hp)) HFB.out.ok : (bS j (acks m k)).Ok)
                  have HGD := Lib.hid (show (dP W j).Good by have := HFA.out.good; rw [HOA.out] at this; have h2 := good_at this k HKS.out; rwa [outA_get W m s k (by omega), ← hj] at h2)
                  have HBP := Lib.hid (good_cases HGD.out).2
                  have hmk : j < nW := by omega
                  obtain ⟨gw, cw3, A3, c3, hwv, hwc, hwC⟩ := hLx.head (j := j) (by rw [HNW.out]; exact hmk)
                  rw [HNW.out] at hwv
                  injection hwv with hw1 hw2 hw3
                  subst hw1 hw3
                  clear hw2
                  have HWC := Lib.hid hwc
                  have HWCC := Lib.hid hwC
                  clear hLx hRx hkx3 hM hrg hcl hnp hwc hwC
                  have hbl0 := HBP.out rfl
                  have hbl1 : (dP W j).body = W.getD j [] := rfl
                  rw [hbl1] at hbl0
                  clear hbl1
                  generalize hbd : W.getD j [] = bd at *
                  have HBD := Lib.hid hbd
                  clear hbd
                  have hdl : ((bd.length : Int) == 0) = false := by simp; intro h; simp [h] at hbl0
                  have hdg : decide ((j : Int) ≥ (nW : Int)) = false := by simp; omega
                  have hdg2 : ¬ ((j : Int) ≥ (nW : Int)) := by omega
                  clear hj
                  have HHG := Lib.hid hbl0
                  go_wp2_with (first | ((with_reducible refine gate_dst (N := 143) rfl ?_); (refine wpList_load_mid rfl 27 (.tmp 142) rfl gx (k * 10) (by first | rfl | (simp; done)) cs _ HRG.out Try.underlying27 rfl (by rw [HCL.out]; kernel_rfl) ?_)) | (go_at_call 34; (have hc := take_next HEB.out HOKB.out (two_B HLX.out.two) (by rw [acks_len]; omega) HGD.out HMM.out (fun j9 hj9 => HLX.out.two.apart j9 (HKX.out j9 hj9))); rw [HBD.out] at hc; (with_reducible refine hc.mono ?_); clear hc; (rintro e wt ⟨At, ct, rfl, hCt, ht⟩); (have HTC := Lib.hid hCt); (have HKW := Lib.hid ht.2.1); (have HTF := Lib.hid (FQ.step HKS.out HLX.out HRX.out HKX.out (by rw [HFE.out, outA_get W m s k (by have := HKS.out; rw [outA_len] at this; exact this), ← HJ.out]; exact ht))); (clear hCt ht)) | ((with_reducible refine gate_ (.store 56 (.tmp 19) (.tmp 145)) rfl ?_); (refine store_row_F rfl rfl 56 (.tmp 19) (.tmp 145) rfl wt.heap.size _ rfl rfl 56 _ (heap_alloc_new wt _) (by kernel_rfl) rfl (by kernel_rfl) ?_); (intro wu hbu hatu); (have HBU := Lib.hid (hatu.below ((Below.refl wt.heap.size wt).alloc (Nat.le_refl _) _) (Nat.le_refl _))); (have HU := Lib.hid (FQ.sub HTF.out HBU.out)); (have htb : wu.cell? ⟨wt.heap.size, 3, none⟩ = some (.slice At bd.length ct) := (blk_cell hbu 3).trans rfl); (clear hbu hatu)))
                  have hbw : Below w.heap.size w wu := by obtain ⟨_, _, _, _, h1, _⟩ := HU.out; exact HBE.out ▸ h1.below
                  have hgw : okw3 gw := HLX.out.want.1 gw rfl
                  have hwu : wu.cell? ⟨gw, j, none⟩ = some (.slice A3 bd.length c3) := cell_kept (cell_kept HWC.out HKW.out (HLX.out.apart gw hgw).2.1) (Kept.of_below HBU.out (fun _ => False)) (fun h => h)
                  have hcv1 := fun n : Nat => Kd.C_string (P := Try.prog) (dst := 9) (c := ct) Try.underlying22 Try.underlying5 Try.underlying9 (Kd.C_drewN (Kd.C_below HTC.out HBU.out) n)
                  have hcv2 := fun n : Nat => Kd.C_string (P := Try.prog) (dst := 9) (c := c3) Try.underlying22 Try.underlying5 Try.underlying9 (Kd.C_drewN (Kd.C_below HWCC.out hbw) n)
                  clear hbw hgw
                  go_quiet (fail)
                  go_wp2_with fail
                  go_roundg (s - (k + 1))
                  case measure => have := HM2.out; omega
                  case rel => exact ⟨k + 1, rfl, by omega, by first | rfl | simp, by have := HJ.out; first | rfl | (congr 1; omega) | simp [Int.add_assoc], by first | exact HU.out | exact FQ.sub HU.out (pw_below_drewN (Below.refl _ _) _)⟩
                · have hks : k = s := by have := HIN2.out; omega
                  subst hks
                  have hdk : decide ((k : Int) < (k : Int)) = false := by simp
                  obtain ⟨oa3, ob3, okw3, okx3, hLx, hRx, hkx3⟩ := HFQ.out
                  rw [show feed 1 (bS m []) ((outA W m k).take k) = bS (m + k) (acks m k) by rw [outA_take W m k k (Nat.le_refl _), feed_b W m k (by omega)]] at hLx
                  have HLX := Lib.hid hLx
                  have HND := Lib.hid (round_a (W := W) (m := m) (s := k) (by rw [HNW.out]; exact HS.out))
                  have HFO := Lib.hid (out_fine HFA.out)
                  have HGK := Lib.hid (show ∀ p ∈ acks m k, p.Good by
                    have h1 := feed_fine (b := 1) (by decide) HFA.out.good HFB.out
                    rw [HOA.out, feed_b W m k (by omega)] at h1
                    exact h1.good)
                  have HFN := Lib.hid (swap_fine HFA.out HFB.out)
                  clear hLx hRx hkx3 hk
                  go_wp2_with (go_at_call 32; (have hc := out_end HLX.out.two.b); (with_reducible refine hc.mono ?_); clear hc; rintro e wx2 ⟨ox, okx, rfl, ht, hR, hkx, _⟩; (have hR2 : pkt.R 27 wx2 B okx ox (acks m k) := hR); clear hR; (obtain ⟨Ay, cy, hox⟩ := Kd.R_slice hR2); rw [acks_len] at hox; subst hox; (have HY0 := Lib.hid (⟨_, _, _, _, (HLX.out.right ht).swap, hR2, fun k hk => .inl (hkx k hk)⟩ : FQ w B wn1.heap.size wal.heap.size (bS (m + k) []) (outL (st W m)) W (.slice Aw nW cw) ts (.slice Ay k cy) (acks m k) 0 wx2)); clear ht hR2 hkx)
                  go_loopg [22] k (fun q s22 wr => ∃ l : Nat, q = k - l ∧ l ≤ k ∧ s22 = .int .i64 (l : Int) ∧ FQ w B wn1.heap.size wal.heap.size (bS (m + k) []) (outL (st W m)) W (.slice Aw nW cw) ts (.slice Ay k cy) (acks m k) l wr)
                  case atStart => exact ⟨0, rfl, Nat.zero_le _, rfl, HY0.out⟩
                  case round =>
                    obtain ⟨l, hm, hin, rfl, hFQ⟩ := hrel
                    have HM3 := Lib.hid hm
                    have HIN3 := Lib.hid hin
                    have HFQ3 := Lib.hid hFQ
                    clear hm hin hFQ
                    by_cases hl : (l : Int) < (k : Int)
                    · have hdl : decide ((l : Int) < (k : Int)) = true := by simp [hl]
                      obtain ⟨oa4, ob4, okw4, okx4, hLy, hRy, hky4⟩ := HFQ3.out
                      obtain ⟨gy, cs, hAy, hM, hrg, hcl, hnp⟩ := pkt_elem hRy l (by omega)
                      subst hAy
                      have HLY := Lib.hid hLy
                      have HRY := Lib.hid hRy
                      have HKY := Lib.hid hky4
                      have HMM := Lib.hid hM
                      have HRG := Lib.hid hrg
                      have HCL := Lib.hid hcl
                      have HKS := Lib.hid (show l < (acks m k).length by rw [acks_len]; omega)
                      clear hLy hRy hky4 hM hrg hcl hnp
                      go_wp2_with (first | ((with_reducible refine gate_dst (N := 180) rfl ?_); (refine wpList_load_mid rfl 27 (.tmp 179) rfl gy (l * 10) (by first | rfl | (simp; done)) cs _ HRG.out Try.underlying27 rfl (by rw [HCL.out]; kernel_rfl) ?_)) | (go_at_call 34; (have hc := take_end HLY.out.two.b (two_B HLY.out.two) (feed_ok (by decide) (fun p hp => HGK.out p (List.mem_of_mem_take hp)) HFO.out.ok) 1 ((acks m k).getD l nilP) (by decide) (good_at HGK.out l HKS.out) HMM.out (fun j hj => HLY.out.two.apart j (HKY.out j hj))); (with_reducible refine hc.mono ?_); clear hc; (rintro e wt hTT); (have HTF := Lib.hid (FQ.step HKS.out HLY.out HRY.out HKY.out (Took.turns hTT))); (obtain ⟨vb, okb, rfl, _⟩ := hTT)))
                      go_roundg (k - (l + 1))
                      case measure => have := HM3.out; omega
                      case rel => exact ⟨l + 1, rfl, by omega, by first | rfl | simp, HTF.out⟩
                    · have hlk : l = k := by have := HIN3.out; omega
                      subst hlk
                      have hdl : decide ((l : Int) < (l : Int)) = false := by simp
                      obtain ⟨oa4, ob4, okw4, okx4, hLy, hRy, hky4⟩ := HFQ3.out
                      rw [List.take_of_length_le (by rw [acks_len]; exact Nat.le_refl _), HND.out] at hLy
                      have HLY := Lib.hid hLy.swap
                      have hpe : m + l = pos nW (i + 1) := by rw [HPS.out, ← HS.out]
                      have HPE := Lib.hid hpe
                      clear hLy hRy hky4 hl hpe
                      go_wp2_with fail
                      go_roundg (40 - (i + 1))
                      case measure => have := HM.out; omega
                      case rel =>
                        refine ⟨i + 1, rfl, by omega, by first | rfl | simp, by rw [← HPE.out]; first | rfl | simp, ?_⟩
                        unfold MI
                        rw [HNW.out, ← HPE.out]
                        have e := round_st W m
                        rw [HNW.out, ← HS.out] at e
                        have hf := HFN.out
                        rw [e] at hf
                        exact ⟨_, _, _, HLY.out, hf⟩
            · have hi40 : i = 40 := by have := HIN.out; omega
              subst hi40
              have hd : decide (((40 : Nat) : Int) < 40) = false := by decide
              have hmn : m = nW := HP40.out rfl
              subst hmn
              have HL := Lib.hid hL
              have hq0 : ((st W m).queue.length : Int) = 0 := by show ((W.drop m).length : Int) = 0; rw [List.length_drop, HNW.out]; simp
              have HQ0 := Lib.hid hq0
              clear hL hFa hFb hq0
              go_wp2_with (go_at_call 31; (have hc := queue_end HL.out.two.a); (with_reducible refine hc.mono ?_); clear hc; rintro e w9 ⟨rfl, rfl⟩; rw [HQ0.out])
              go_ret
              exact ⟨rfl, HL.out.below⟩

end Go.Proofs.Ytnkkgofpifhoeaa.Lk
