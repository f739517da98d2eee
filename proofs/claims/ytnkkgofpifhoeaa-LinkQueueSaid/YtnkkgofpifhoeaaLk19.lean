/- The chapter's examples of a link: alive answers true. -/
import Derived.Test.YtnkkgofpifhoeaaLk18
import Derived.Deep.LoopGhost
import Derived.Lib.SlBytesConst
import Derived.Lib.SmallJoins
namespace Go.Proofs.Ytnkkgofpifhoeaa.Lk
open Go.RowKit Go.Proofs.Ytnkkgofpifhoeaa.Base Go.Proofs.Ytnkkgofpifhoeaa.Steps Go.Proofs.YtnkkgofpifhoeaaW.PrintWords Go.Proofs.YtnkkgofpifhoeaaW.PrintLast
set_option linter.unusedSimpArgs false
set_option linter.unusedVariables false
/-- Two new ends that opened, behind so many exchanges. -/
def it : Nat → Lk × Lk
  | 0 => (openL (newL 1), openL (newL 1))
  | n + 1 => swapF (it n).1 (it n).2
theorem it_fine (n : Nat) : (it n).1.Fine ∧ (it n).2.Fine := by
  induction n with
  | zero => exact ⟨open_fine (new_fine (by decide)), open_fine (new_fine (by decide))⟩
  | succ n ih => exact swap_fine ih.1 ih.2
/-- An end that is up and has said nothing yet. -/
def upE : Lk := ⟨1, 2, 1, 1, 1, true, [], 0, 4294967293, 4294967293, 0, []⟩
theorem it3 : it 3 = (upE, upE) := by rfl
theorem it4 : it 4 = (upE, upE) := by rfl
def openN : Lk := openL (newL 1)
theorem open_new {w : World} {B g : Nat} {own : Nat → Prop} (h : End w B own g (newL 1)) (hB : B ≤ w.heap.size) : Calls Try.prog 27 #[.pointer (some ⟨g, 0, none⟩)] w fun e w' => e = .returned (.int .i64 0) ∧ Turns w B own g openN w' :=
  (open_end h hB (new_fine (own := 1) (by decide)).ok).mono fun e w' hq => hq
theorem new0_of (w : World) : Calls Try.prog 26 #[.int .u32 0] w fun e w' => e = .returned (.tuple #[.pointer none, .int .i64 2]) ∧ w = w' := by
  go_enter Try.func26, Try.ntmps26
  go_wp2
  all_goals go_ret2
  all_goals exact ⟨rfl, rfl⟩
theorem end_new {w : World} {B g : Nat} {L : Lk} (h : At w B (fun _ => False) (fun _ => False) g L (.slice none 0 0) (.slice none 0 0)) : End w B (fun k => k = g) g L :=
  ⟨_, _, _, _, h, fun k hk => hk.elim False.elim (fun x => x.elim False.elim id)⟩
/-- Two ends side by side, in memory that is as it was below B. -/
def TwoB (w0 : World) (B : Nat) (ga gb : Nat) (A D : Lk) (w : World) : Prop := ∃ oa ob, Two w B oa ob ga gb A D ∧ Below B w0 w
/-- Two new ends. -/
theorem two_new {w w1 w2 : World} {B : Nat} {A D : Lk} (hB : B ≤ w.heap.size) (h1 : At w1 B (fun _ => False) (fun _ => False) w.heap.size A (.slice none 0 0) (.slice none 0 0)) (b1 : Below w.heap.size w w1)
    (h2 : At w2 B (fun _ => False) (fun _ => False) w1.heap.size D (.slice none 0 0) (.slice none 0 0)) (b2 : Below w1.heap.size w1 w2) : Two w2 B (fun k => k = w.heap.size) (fun k => k = w1.heap.size) w.heap.size w1.heap.size A D ∧ Below B w w2 := by
  have hl := blk_lt h1.blk
  have hl2 := blk_lt h2.blk
  have hs := b2.size
  refine ⟨⟨(end_new h1).kept (Kept.of_below b2 (fun _ => False)) (fun _ _ hf => hf), end_new h2, fun k ha hb => by omega, fun k hk => by omega, fun k hk => by omega⟩, (b1.mono hB).trans (b2.mono (by have := b1.size; omega))⟩
theorem lit1_C (W : World) : (Kd.int .u8).C (W.alloc (.cells #[.int .u8 120] 5 (1, 2))) (some ⟨W.heap.size, 0, none⟩) 1 [120] := by
  refine ⟨rfl, by decide, fun _ => ⟨_, rfl, fun j p hj => ⟨[.int .u8 p], rfl, rfl, fun i u hu => ?_⟩⟩⟩
  have hj0 : j = 0 := by
    by_cases h : j = 0
    · exact h
    · rw [List.getElem?_eq_none (by simp; omega)] at hj; cases hj
  subst hj0
  have hi0 : i = 0 := by
    by_cases h : i = 0
    · exact h
    · rw [List.getElem?_eq_none (by simp; omega)] at hu; cases hu
  subst hi0
  have hp : (120 : Int) = p := Option.some.inj hj
  subst hp
  have hu' : Value.int .u8 120 = u := Option.some.inj hu
  subst hu'
  exact World.cell?_alloc_mark W #[.int .u8 120] 5 (1, 2) 0
theorem TwoB.below {w0 w w' : World} {B ga gb : Nat} {A D : Lk} (h : TwoB w0 B ga gb A D w) (hb : Below w.heap.size w w') : TwoB w0 B ga gb A D w' := by
  obtain ⟨oa, ob, hT, hb0⟩ := h
  exact ⟨oa, ob, hT.below hb, hb0.trans (hb.mono (two_B hT))⟩
theorem str120 : strOfNums [120] = (⟨#[120]⟩ : ByteArray) := by first | rfl | decide
def upS : Lk := sendL upE [120]
def dx : Pkt := ⟨2, 1, 1, 1, 4294967293, 4294967293, 0, 0, 0, 0, [120]⟩
theorem upS_out : upS.out = [dx] := by rfl
theorem upE_fine : upE.Fine := by have := (it_fine 3).1; rwa [it3] at this
theorem upS_fine : upS.Fine := sendL_fine upE_fine _
theorem dx_good : dx.Good := upS_fine.good dx (by rw [upS_out]; exact List.mem_singleton.2 rfl)
theorem take_dx : (takeF upE 1 dx).2 = ⟨true, false, false, [120]⟩ := by rfl
theorem send_x {w : World} {B g : Nat} {own : Nat → Prop} (h : End w B own g upE) (hB : B ≤ w.heap.size) (Ab : Option Addr) (cb : Nat) (hC : (Kd.int .u8).C w Ab 1 [120]) :
    Calls Try.prog 30 #[.pointer (some ⟨g, 0, none⟩), .slice Ab 1 cb] w fun e w' => e = .returned (.int .i64 0) ∧ Turns w B own g upS w' :=
  (send_end h hB upE_fine.ok [120] Ab cb hC).mono fun e w' hq => hq
theorem out_x {w : World} {B g : Nat} {own : Nat → Prop} (h : End w B own g upS) : Calls Try.prog 32 #[.pointer (some ⟨g, 0, none⟩)] w fun e w' => ∃ gx c okx cs, e = .returned (.slice (some ⟨gx, 0, none⟩) 1 c) ∧ Turns w B own g (outL upS) w' ∧ pkt.M w' B okx dx cs ∧ w'.rangeAt gx 0 cs ∧ cs.length = 10 ∧ (∀ k, okx k → own k) := by
  refine (out_end h).mono fun e w' hq => ?_
  obtain ⟨o, okx, he, ht, hR, hk, _⟩ := hq
  rw [upS_out] at hR
  obtain ⟨A, c, ho⟩ := Kd.R_slice hR
  subst ho
  obtain ⟨gx, cs, hA, hM, hr, hl, _⟩ := pkt_elem hR 0 (by decide)
  subst hA
  refine ⟨gx, c, okx, cs, he, ht, hM, ?_, hl, hk⟩
  simpa using hr
theorem take_x {w : World} {B g : Nat} {own : Nat → Prop} (h : End w B own g upE) (hB : B ≤ w.heap.size) {okp : Nat → Prop} {cs : List Value} (hM : pkt.M w B okp dx cs) (hkp : ∀ k, okp k → ¬ own k) :
    Calls Try.prog 34 #[.pointer (some ⟨g, 0, none⟩), .int .u32 1, .agg cs.toArray] w fun e w' => ∃ A c, e = .returned (.tuple #[.agg #[.bool true, .bool false, .bool false, .slice A 1 c], .int .i64 0]) ∧ (Kd.int .u8).C w' A 1 [120] ∧ Turns w B own g (takeF upE 1 dx).1 w' := by
  refine (take_end h hB upE_fine.ok 1 dx (by decide) dx_good hM hkp).mono fun e w' hq => ?_
  have ht := Took.turns hq
  obtain ⟨vb, okb, he, hR, _⟩ := hq
  rw [take_dx] at he hR
  obtain ⟨A, c, hv, _, hC⟩ := Kd.R_reads hR
  subst hv
  exact ⟨A, c, he, hC, ht⟩
set_option maxRecDepth 100000 in
set_option maxHeartbeats 4000000 in
theorem alive11 (w : World) (B : Nat) (hB : B ≤ w.heap.size) : Calls Try.prog 25 #[] w fun e w' => e = .returned (.bool true) ∧ Below B w w' := by
  have HB0 := Lib.hid hB
  clear hB
  go_enter Try.func25, Try.ntmps25
  go_wp2_with (first | (go_at_call 26; (have hc := new_of 1 (by decide) w B HB0.out); (with_reducible refine hc.mono ?_); clear hc; rintro e wn1 ⟨rfl, h1, b1⟩; (have N1 := Lib.hid h1); (have NB1 := Lib.hid b1); clear h1 b1) | (go_at_call 26; (have hc := new_of 1 (by decide) wn1 B (Nat.le_trans HB0.out NB1.out.size)); (with_reducible refine hc.mono ?_); clear hc; rintro e wn2 ⟨rfl, h1, b1⟩; (have N2 := Lib.hid (⟨_, _, two_new HB0.out N1.out NB1.out h1 b1⟩ : TwoB w B w.heap.size wn1.heap.size (newL 1) (newL 1) wn2)); clear h1 b1) | (go_at_call 27; (obtain ⟨oa, ob, hT, hb⟩ := N2.out); (have hc := open_new hT.a (two_B hT)); (with_reducible refine hc.mono ?_); clear hc; rintro e wo1 ⟨rfl, ht⟩; (have O1 := Lib.hid (⟨_, _, hT.left ht, hb.trans ht.2.2⟩ : TwoB w B w.heap.size wn1.heap.size openN (newL 1) wo1)); clear ht hT hb) | (go_at_call 27; (obtain ⟨oa, ob, hT, hb⟩ := O1.out); (have hc := open_new hT.b (two_B hT)); (with_reducible refine hc.mono ?_); clear hc; rintro e wo2 ⟨rfl, ht⟩; (have O2 := Lib.hid (⟨_, _, hT.right ht, hb.trans ht.2.2⟩ : TwoB w B w.heap.size wn1.heap.size openN openN wo2)); clear ht hT hb))
  go_loopg [5] 3 (fun m v wr => ∃ i : Nat, m = 3 - i ∧ i ≤ 3 ∧ v = .int .i64 (i : Int) ∧ TwoB w B w.heap.size wn1.heap.size (it i).1 (it i).2 wr)
  case atStart => exact ⟨0, rfl, by decide, rfl, O2.out⟩
  case round =>
    obtain ⟨i, hm, hin, rfl, oa, ob, hT, hb⟩ := hrel
    have HM := Lib.hid hm
    have HIN := Lib.hid hin
    have HT0 := Lib.hid hT
    have HBL0 := Lib.hid hb
    clear hm hin hT hb
    by_cases hlt : (i : Int) < 3
    · have hd : decide ((i : Int) < 3) = true := by simp; omega
      have HLT := Lib.hid hlt
      have FA := Lib.hid (it_fine i).1
      have FN := Lib.hid (it_fine i).2
      have HNX : Hid (it (i + 1) = swapF (it i).1 (it i).2) := Lib.hid rfl
      generalize hA : (it i).1 = A at *
      generalize hD : (it i).2 = D at *
      clear hA hD
      go_wp2_with (first | (go_at_call 32; (have hc := out_end HT0.out.a); (with_reducible refine hc.mono ?_); clear hc; rintro e w1x ⟨o1, okx, rfl, ht, hR, hkx, hs⟩; (obtain ⟨A1x, c1x, ho1⟩ := Kd.R_slice hR); subst ho1; (have F0x := Lib.hid (⟨_, _, okx, Two.left HT0.out ht, hR, fun k hk => .inl (hkx k hk), Below.trans HBL0.out ht.2.2⟩ : FD w B w.heap.size wn1.heap.size (outL (A)) (D) (.slice A1x (A).out.length c1x) (A).out 0 w1x)); (clear ht hR hkx hs)))
      have hnbx := FA.out.ok.out
      generalize hnlx : (A).out.length = nx at *
      have HNx := Lib.hid hnlx
      clear hnlx
      go_loopg [7] nx (fun m v wr => ∃ i : Nat, m = nx - i ∧ i ≤ nx ∧ v = .int .i64 (i : Int) ∧ FD w B w.heap.size wn1.heap.size (outL (A)) (D) (.slice A1x nx c1x) (A).out i wr)
      case atStart => exact ⟨0, rfl, Nat.zero_le _, rfl, F0x.out⟩
      case round =>
        obtain ⟨ix, hm, hin, rfl, hF⟩ := hrel
        have HMx := Lib.hid hm
        have HINx := Lib.hid hin
        have HFx := Lib.hid hF
        clear hm hin hF
        by_cases hltx : (ix : Int) < (nx : Int)
        · have hdx : decide ((ix : Int) < (nx : Int)) = true := by simp [hltx]
          obtain ⟨oa1, ob1, okx, hT, hR, hkx, hbl⟩ := HFx.out
          obtain ⟨gxx, csx, hA1, hM, hrg, hcl, hnp⟩ := pkt_elem hR ix (by omega)
          subst hA1
          have HTx := Lib.hid hT
          have HRx := Lib.hid hR
          have HKXx := Lib.hid hkx
          have HBLx := Lib.hid hbl
          have HMMx := Lib.hid hM
          have HRGx := Lib.hid hrg
          have HCLx := Lib.hid hcl
          have HLTx := Lib.hid (show ix < (A).out.length by have := HNx.out; omega)
          clear hT hR hkx hbl hM hrg hcl hnp
          go_wp2_with (first | ((with_reducible refine gate_dst (N := 62) rfl ?_); (refine wpList_load_mid rfl 27 (.tmp 61) rfl gxx (ix * 10) (by first | rfl | (simp; done)) csx _ HRGx.out Try.underlying27 rfl (by rw [HCLx.out]; kernel_rfl) ?_)) | (go_at_call 34; (have hc := take_end HTx.out.b (two_B HTx.out) (feed_ok (by decide) (fun p hp => FA.out.good p (List.mem_of_mem_take hp)) FN.out.ok) 1 ((A).out.getD ix nilP) (by decide) (good_at FA.out.good ix HLTx.out) HMMx.out (fun k hk => HTx.out.apart k (HKXx.out k hk))); (with_reducible refine hc.mono ?_); (clear hc); (rintro e w9 hTT); (have HTT := Lib.hid (FD.step HLTx.out HTx.out HRx.out HKXx.out HBLx.out hTT)); (obtain ⟨vb, okb, rfl, _⟩ := hTT)))
          go_roundg (nx - (ix + 1))
          case measure => have := HMx.out; have := HNx.out; have := HLTx.out; omega
          case rel => exact ⟨ix + 1, rfl, by have := HNx.out; have := HLTx.out; omega, by first | rfl | simp, HTT.out⟩
        · have hdx : decide ((ix : Int) < (nx : Int)) = false := by simp; omega
          have hiex : ix = nx := by have := HINx.out; omega
          subst hiex
          obtain ⟨oax, obx, okx, hT, hR, hkx, hbl⟩ := HFx.out
          rw [List.take_of_length_le (by have := HNx.out; omega)] at hT
          have HTx := Lib.hid hT
          have HBLx := Lib.hid hbl
          clear hT hR hkx hbl hltx
          have FB := Lib.hid (feed_fine (b := 1) (by decide) FA.out.good FN.out : (feed 1 D A.out).Fine)
          have FO := Lib.hid (out_fine FA.out)
          generalize hD2 : feed 1 D A.out = D2 at *
          have HD2 := Lib.hid hD2
          clear hD2
          go_wp2_with (first | (go_at_call 32; (have hc := out_end HTx.out.swap.a); (with_reducible refine hc.mono ?_); clear hc; rintro e w1y ⟨o1, okx, rfl, ht, hR, hkx, hs⟩; (obtain ⟨A1y, c1y, ho1⟩ := Kd.R_slice hR); subst ho1; (have F0y := Lib.hid (⟨_, _, okx, Two.left HTx.out.swap ht, hR, fun k hk => .inl (hkx k hk), Below.trans HBLx.out ht.2.2⟩ : FD w B wn1.heap.size w.heap.size (outL (D2)) (outL A) (.slice A1y (D2).out.length c1y) (D2).out 0 w1y)); (clear ht hR hkx hs)))
          have hnby := FB.out.ok.out
          generalize hnly : (D2).out.length = ny at *
          have HNy := Lib.hid hnly
          clear hnly
          go_loopg [9] ny (fun m v wr => ∃ i : Nat, m = ny - i ∧ i ≤ ny ∧ v = .int .i64 (i : Int) ∧ FD w B wn1.heap.size w.heap.size (outL (D2)) (outL A) (.slice A1y ny c1y) (D2).out i wr)
          case atStart => exact ⟨0, rfl, Nat.zero_le _, rfl, F0y.out⟩
          case round =>
            obtain ⟨iy, hm, hin, rfl, hF⟩ := hrel
            have HMy := Lib.hid hm
            have HINy := Lib.hid hin
            have HFy := Lib.hid hF
            clear hm hin hF
            by_cases hlty : (iy : Int) < (ny : Int)
            · have hdy : decide ((iy : Int) < (ny : Int)) = true := by simp [hlty]
              obtain ⟨oa1, ob1, okx, hT, hR, hkx, hbl⟩ := HFy.out
              obtain ⟨gxy, csy, hA1, hM, hrg, hcl, hnp⟩ := pkt_elem hR iy (by omega)
              subst hA1
              have HTy := Lib.hid hT
              have HRy := Lib.hid hR
              have HKXy := Lib.hid hkx
              have HBLy := Lib.hid hbl
              have HMMy := Lib.hid hM
              have HRGy := Lib.hid hrg
              have HCLy := Lib.hid hcl
              have HLTy := Lib.hid (show iy < (D2).out.length by have := HNy.out; omega)
              clear hT hR hkx hbl hM hrg hcl hnp
              go_wp2_with (first | ((with_reducible refine gate_dst (N := 76) rfl ?_); (refine wpList_load_mid rfl 27 (.tmp 75) rfl gxy (iy * 10) (by first | rfl | (simp; done)) csy _ HRGy.out Try.underlying27 rfl (by rw [HCLy.out]; kernel_rfl) ?_)) | (go_at_call 34; (have hc := take_end HTy.out.b (two_B HTy.out) (feed_ok (by decide) (fun p hp => FB.out.good p (List.mem_of_mem_take hp)) FO.out.ok) 1 ((D2).out.getD iy nilP) (by decide) (good_at FB.out.good iy HLTy.out) HMMy.out (fun k hk => HTy.out.apart k (HKXy.out k hk))); (with_reducible refine hc.mono ?_); (clear hc); (rintro e w9 hTT); (have HTT := Lib.hid (FD.step HLTy.out HTy.out HRy.out HKXy.out HBLy.out hTT)); (obtain ⟨vb, okb, rfl, _⟩ := hTT)))
              go_roundg (ny - (iy + 1))
              case measure => have := HMy.out; have := HNy.out; have := HLTy.out; omega
              case rel => exact ⟨iy + 1, rfl, by have := HNy.out; have := HLTy.out; omega, by first | rfl | simp, HTT.out⟩
            · have hdy : decide ((iy : Int) < (ny : Int)) = false := by simp; omega
              have hiey : iy = ny := by have := HINy.out; omega
              subst hiey
              obtain ⟨oay, oby, okx, hT, hR, hkx, hbl⟩ := HFy.out
              rw [List.take_of_length_le (by have := HNy.out; omega)] at hT
              have HTy := Lib.hid hT
              have HBLy := Lib.hid hbl
              clear hT hR hkx hbl hlty
              go_wp2_with fail
              go_roundg (3 - (i + 1))
              case measure => have := HM.out; have := HLT.out; omega
              case rel =>
                refine ⟨i + 1, rfl, by have := HLT.out; omega, by first | rfl | simp, ?_⟩
                rw [HNX.out]
                have e1 : (swapF A D).1 = feed 1 (outL A) D2.out := by unfold swapF; rw [HD2.out]
                have e2 : (swapF A D).2 = outL D2 := by unfold swapF; rw [HD2.out]
                rw [e1, e2]
                exact ⟨_, _, HTy.out.swap, HBLy.out⟩
    · have hi3 : i = 3 := by have := HIN.out; omega
      subst hi3
      have hd : decide (((3 : Nat) : Int) < 3) = false := by decide
      have HT3 := Lib.hid (show Two wr B oa ob w.heap.size wn1.heap.size upE upE from by have := HT0.out; rwa [it3] at this)
      clear HT0 hlt
      have HLA := Lib.hid (lit1_C wr)
      have hconv := Lib.run_convert_bytes_const (P := Try.prog) wr 22 5 #[.int .u8 120] 1 1 Try.underlying22 Try.underlying5
      go_wp2_with (first | (go_at_call 30; (have hc := send_x (HT3.out.below ((Below.refl _ _).alloc (Nat.le_refl _) (.cells #[.int .u8 120] 5 (1, 2)))).a (two_B (HT3.out.below ((Below.refl _ _).alloc (Nat.le_refl _) (.cells #[.int .u8 120] 5 (1, 2))))) (some ⟨wr.heap.size, 0, none⟩) 1 HLA.out); (with_reducible refine hc.mono ?_); clear hc; rintro e ws ⟨rfl, ht⟩; (have HS := Lib.hid (⟨_, _, (HT3.out.below ((Below.refl _ _).alloc (Nat.le_refl _) (.cells #[.int .u8 120] 5 (1, 2)))).left ht, (HBL0.out.trans (((Below.refl _ _).alloc (Nat.le_refl _) (.cells #[.int .u8 120] 5 (1, 2))).mono (two_B HT3.out))).trans ht.2.2⟩ : TwoB w B w.heap.size wn1.heap.size upS upE ws)); (clear ht)) | (go_at_call 32; (obtain ⟨oa9, ob9, hT9, hb9⟩ := HS.out); (have hc := out_x hT9.a); (with_reducible refine hc.mono ?_); clear hc; rintro e wx ⟨gx, cx, okx, cs, rfl, ht, hM, hrg, hcl, hkx⟩; (have HX := Lib.hid (hT9.left ht)); (have HXB := Lib.hid (hb9.trans ht.2.2)); (have HXM := Lib.hid hM); (have HXR := Lib.hid hrg); (have HXL := Lib.hid hcl); (have HXK := Lib.hid hkx); (have hseq : wx.cell? ⟨gx, 4, none⟩ = some (.int .u32 4294967293) := (by obtain ⟨b, hb, _⟩ := pkt_M.1 hM; subst hb; exact (show wx.cell? ⟨gx, 0 + 4, none⟩ = some (.int .u32 4294967293) from hrg 4 _ rfl))); (clear hT9 hb9 ht hM hrg hcl hkx)) | (go_at_call 29; (have hc := phase_end HX.out.a); (with_reducible refine hc.mono ?_); clear hc; rintro e w9 ⟨rfl, rfl⟩; rw [show (outL upS).phase = 2 from rfl]) | (go_at_call 29; (have hc := phase_end HX.out.b); (with_reducible refine hc.mono ?_); clear hc; rintro e w9 ⟨rfl, rfl⟩; rw [show upE.phase = 2 from rfl]) | ((with_reducible refine gate_dst (N := 112) rfl ?_); (refine wpList_load_mid rfl 27 (.tmp 111) rfl gx 0 (by first | rfl | (simp; done)) cs _ HXR.out Try.underlying27 rfl (by rw [HXL.out]; kernel_rfl) ?_)) | (go_at_call 34; (have hc := take_x HX.out.b (two_B HX.out) HXM.out (fun k hk ho => HX.out.apart k (.inl (HXK.out k hk)) ho)); (with_reducible refine hc.mono ?_); clear hc; rintro e wt ⟨At, ct, rfl, hC, ht⟩; (have HTC := Lib.hid hC); (have HTT := Lib.hid (⟨_, _, HX.out.right ht, HXB.out.trans ht.2.2⟩ : TwoB w B w.heap.size wn1.heap.size (outL upS) (takeF upE 1 dx).1 wt)); (clear hC ht hseq)) | ((with_reducible refine gate_ (.store 56 (.tmp 11) (.tmp 114)) rfl ?_); (refine store_row_F rfl rfl 56 (.tmp 11) (.tmp 114) rfl wt.heap.size _ rfl rfl 56 _ (heap_alloc_new wt _) (by kernel_rfl) rfl (by kernel_rfl) ?_); (intro wu hbu hatu); (have HBU := Lib.hid (hatu.below ((Below.refl wt.heap.size wt).alloc (Nat.le_refl _) _) (Nat.le_refl _))); (have HU := Lib.hid (TwoB.below HTT.out HBU.out)); (have htb : wu.cell? ⟨wt.heap.size, 3, none⟩ = some (.slice At 1 ct) := (blk_cell hbu 3).trans rfl); (have hcv := Kd.C_string (P := Try.prog) (dst := 9) (c := ct) Try.underlying22 Try.underlying5 Try.underlying9 (Kd.C_below HTC.out HBU.out)); (rw [str120] at hcv); (clear hbu hatu)) | (go_at_call 26; (have hc := new0_of wu); (with_reducible refine hc.mono ?_); clear hc; rintro e w9 ⟨rfl, rfl⟩) | (go_at_call 31; (obtain ⟨oa8, ob8, hT8, hb8⟩ := HU.out); (have hc := queue_end hT8.a); (with_reducible refine hc.mono ?_); clear hc; rintro e w9 ⟨rfl, rfl⟩; (clear hT8 hb8); rw [show ((outL upS).queue.length : Int) = 1 from rfl]) | (go_at_call 71; (obtain ⟨oa8, ob8, hT8, hb8⟩ := HU.out); (have hc := token_of hT8.a); (with_reducible refine hc.mono ?_); clear hc; rintro e w9 ⟨rfl, rfl⟩; (clear hT8 hb8); rw [show (outL upS).token = 1 from rfl]))
      go_ret
      exact ⟨rfl, by obtain ⟨_, _, _, hb8⟩ := HU.out; first | exact hb8 | exact hb8.trans (pw_below_drewN (Below.refl _ _) _)⟩
end Go.Proofs.Ytnkkgofpifhoeaa.Lk
