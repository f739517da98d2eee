/- swap: what both have emitted comes, a's first. -/
import Derived.Test.YtnkkgofpifhoeaaLk16
import Derived.Deep.MidRow
import Derived.Deep.LoopGhost
namespace Go.Proofs.Ytnkkgofpifhoeaa.Lk
open Go.RowKit Go.Proofs.Ytnkkgofpifhoeaa.Base Go.Proofs.Ytnkkgofpifhoeaa.Pk Go.Proofs.YtnkkgofpifhoeaaW.PrintWords Go.Proofs.YtnkkgofpifhoeaaW.PrintLast
set_option linter.unusedSimpArgs false
set_option linter.unusedVariables false
def nilP : Pkt := ⟨0, 0, 0, 0, 0, 0, 0, 0, 0, 0, []⟩
theorem pkt_elem {w : World} {B : Nat} {okx : Nat → Prop} {A : Option Addr} {n c : Nat} {ps : List Pkt} (h : pkt.R 27 w B okx (.slice A n c) ps) (i : Nat) (hi : i < n) :
    ∃ gx cs, A = some ⟨gx, 0, none⟩ ∧ pkt.M w B okx (ps.getD i nilP) cs ∧ w.rangeAt gx (i * 10) cs ∧ cs.length = 10 ∧ n = ps.length := by
  obtain ⟨hn, hnc, hC⟩ := Kd.R_reads' h
  obtain ⟨gx, cap, he, _⟩ := Kd.R_form h (by omega)
  injection he with h1 h2 h3
  subst h1
  obtain ⟨cs, hl, hM, hc, _⟩ := Kd.R_elem h nilP (i : Int) (by omega) (by omega)
  refine ⟨gx, cs, rfl, pkt.M_mono (fun k hk => hk.1) hM, ?_, hl, hn⟩
  intro j u hu
  have := hc j u hu
  simpa [pkt_sz] using this
def feed (boot : Int) (L : Lk) (ps : List Pkt) : Lk := ps.foldl (fun L p => (takeF L boot p).1) L
theorem feed_ok {boot : Int} (hb : 0 ≤ boot ∧ boot < 4294967296) {ps : List Pkt} (hp : ∀ p ∈ ps, p.Good) {L : Lk} (h : L.Ok) : (feed boot L ps).Ok := by
  induction ps generalizing L with
  | nil => exact h
  | cons p ps ih => exact ih (fun q hq => hp q (List.mem_cons_of_mem _ hq)) (takeF_ok h hb (hp p (List.mem_cons_self)).rng)
theorem feed_take (boot : Int) (L : Lk) (ps : List Pkt) (i : Nat) (hi : i < ps.length) : feed boot L (ps.take (i + 1)) = (takeF (feed boot L (ps.take i)) boot (ps.getD i nilP)).1 := by
  unfold feed
  rw [List.take_add_one, List.foldl_append, List.getElem?_eq_getElem hi, List.getD_eq_getElem?_getD, List.getElem?_eq_getElem hi]
  rfl
theorem good_at {ps : List Pkt} (hp : ∀ p ∈ ps, p.Good) (i : Nat) (hi : i < ps.length) : (ps.getD i nilP).Good := by
  rw [List.getD_eq_getElem?_getD, List.getElem?_eq_getElem hi]
  exact hp _ (List.getElem_mem _)
def outL (L : Lk) : Lk := { L with out := [] }
theorem outL_ok {L : Lk} (h : L.Ok) : (outL L).Ok := ⟨h.own, h.phase, h.token, h.boot, h.yours, h.queue, h.rows, h.sent, h.base, h.expected, h.idle, Nat.zero_le _⟩
def swapF (A D : Lk) : Lk × Lk := (feed 1 (outL A) (feed 1 D A.out).out, outL (feed 1 D A.out))
/-- Where a loop that hands packets over stands: i of them were taken. -/
def FD (w : World) (B : Nat) (ga gb : Nat) (A D : Lk) (x : Value) (ps : List Pkt) (i : Nat) (wr : World) : Prop :=
  ∃ oa ob okx, Two wr B oa ob ga gb A (feed 1 D (ps.take i)) ∧ pkt.R 27 wr B okx x ps ∧ (∀ k, okx k → oa k) ∧ Below B w wr
theorem FD.step {w wr w' : World} {B ga gb : Nat} {A D : Lk} {ps : List Pkt} {i : Nat} {oa ob okx : Nat → Prop} {x : Value} {e : Ending} (hi : i < ps.length) (h : Two wr B oa ob ga gb A (feed 1 D (ps.take i))) (hR : pkt.R 27 wr B okx x ps) (hk : ∀ k, okx k → oa k) (hb : Below B w wr)
    (ht : TookT wr B ob gb (takeF (feed 1 D (ps.take i)) 1 (ps.getD i nilP)) e w') : FD w B ga gb A D x ps (i + 1) w' := by
  have ht' := Took.turns ht
  refine ⟨oa, more ob wr w', okx, ?_, Kd.R_kept hR ht'.2.1 (fun k hx => h.apart k (hk k hx)), hk, hb.trans ht'.2.2⟩
  rw [feed_take 1 D ps i hi]
  exact h.right ht'
theorem two_B {w : World} {B ga gb : Nat} {A D : Lk} {oa ob : Nat → Prop} (h : Two w B oa ob ga gb A D) : B ≤ w.heap.size := by
  obtain ⟨_, _, _, _, h1, _⟩ := h.a
  exact Nat.le_trans h1.low (Nat.le_of_lt (blk_lt h1.blk))
set_option maxRecDepth 100000 in
set_option maxHeartbeats 4000000 in
theorem swap_of {w : World} {B ga gb : Nat} {oa ob : Nat → Prop} {A D : Lk} (h : Two w B oa ob ga gb A D) (hA : A.Ok) (hD : D.Ok) (gA : ∀ p ∈ A.out, p.Good) (gD : ∀ p ∈ (feed 1 D A.out).out, p.Good) :
    Calls Try.prog 28 #[.pointer (some ⟨ga, 0, none⟩), .pointer (some ⟨gb, 0, none⟩)] w fun e w' => e = .returned (.tuple #[]) ∧ ∃ oa' ob', Two w' B oa' ob' ga gb (swapF A D).1 (swapF A D).2 ∧ Below B w w' := by
  have H := Lib.hid h
  have OKA := Lib.hid hA
  have OKD := Lib.hid hD
  have GA := Lib.hid gA
  have GD := Lib.hid gD
  have HB := Lib.hid (two_B h)
  clear h hA hD gA gD
  go_enter Try.func28, Try.ntmps28
  go_wp2_with (go_at_call 32; refine (out_end H.out.a).mono ?_; rintro e w1 ⟨o1, okx, rfl, ht, hR, hkx, hs⟩; (obtain ⟨A1, c1, ho1⟩ := Kd.R_slice hR); subst ho1; (have F0 := Lib.hid (⟨more oa w w1, ob, okx, H.out.left ht, hR, fun k hk => .inl (hkx k hk), ht.2.2⟩ : FD w B ga gb (outL A) D (.slice A1 A.out.length c1) A.out 0 w1)); (clear ht hR hkx hs))
  have hnb := OKA.out.out
  generalize hnl : A.out.length = n at *
  have HN := Lib.hid hnl
  clear hnl
  go_loopg [5] n (fun m v wr => ∃ i : Nat, m = n - i ∧ i ≤ n ∧ v = .int .i64 (i : Int) ∧ FD w B ga gb (outL A) D (.slice A1 n c1) A.out i wr)
  case atStart => exact ⟨0, rfl, Nat.zero_le _, rfl, F0.out⟩
  case round =>
    obtain ⟨i, hm, hin, rfl, hF⟩ := hrel
    have HM := Lib.hid hm
    have HIN := Lib.hid hin
    have HF := Lib.hid hF
    clear hm hin hF
    by_cases hlt : (i : Int) < (n : Int)
    · have hd : decide ((i : Int) < (n : Int)) = true := by simp [hlt]
      obtain ⟨oa1, ob1, okx, hT, hR, hkx, hbl⟩ := HF.out
      obtain ⟨gx, cs, hA1, hM, hrg, hcl, hnp⟩ := pkt_elem hR i (by omega)
      subst hA1
      have HT := Lib.hid hT
      have HR := Lib.hid hR
      have HKX := Lib.hid hkx
      have HBL := Lib.hid hbl
      have HMM := Lib.hid hM
      have HRG := Lib.hid hrg
      have HCL := Lib.hid hcl
      have HLT := Lib.hid (show i < A.out.length by have := HN.out; omega)
      clear hT hR hkx hbl hM hrg hcl hnp
      go_wp2_with (first | ((with_reducible refine gate_dst (N := 20) rfl ?_); (refine wpList_load_mid rfl 27 (.tmp 19) rfl gx (i * 10) (by first | rfl | (simp; done)) cs _ HRG.out Try.underlying27 rfl (by rw [HCL.out]; kernel_rfl) ?_)) | (go_at_call 34; (refine (take_end HT.out.b (two_B HT.out) (feed_ok (by decide) (fun p hp => GA.out p (List.mem_of_mem_take hp)) OKD.out) 1 (A.out.getD i nilP) (by decide) (good_at GA.out i HLT.out) HMM.out (fun k hk => HT.out.apart k (HKX.out k hk))).mono ?_); (rintro e w9 hTT); (have HTT := Lib.hid (FD.step HLT.out HT.out HR.out HKX.out HBL.out hTT)); (obtain ⟨vb, okb, rfl, _⟩ := hTT)))
      go_roundg (n - (i + 1))
      case measure => have := HM.out; have := HN.out; have := HLT.out; omega
      case rel => exact ⟨i + 1, rfl, by have := HN.out; have := HLT.out; omega, by first | rfl | simp, HTT.out⟩
    · have hd : decide ((i : Int) < (n : Int)) = false := by simp; omega
      have hie : i = n := by have := HIN.out; omega
      subst hie
      obtain ⟨oa1, ob1, okx, hT, hR, hkx, hbl⟩ := HF.out
      have hfe : feed 1 D (A.out.take i) = feed 1 D A.out := by rw [List.take_of_length_le (by have := HN.out; omega)]
      rw [hfe] at hT
      have HT := Lib.hid hT
      have HBL := Lib.hid hbl
      have OK2 := Lib.hid (feed_ok (by decide) GA.out OKD.out : (feed 1 D A.out).Ok)
      clear hT hR hkx hbl hfe hlt
      generalize hD2 : feed 1 D A.out = D2 at *
      have HD2 := Lib.hid hD2
      clear hD2
      go_wp2_with (go_at_call 32; refine (out_end HT.out.b).mono ?_; rintro e w3 ⟨o3, okx3, rfl, ht, hR, hkx, hs⟩; (obtain ⟨A3, c3, ho3⟩ := Kd.R_slice hR); subst ho3; (have F3 := Lib.hid (⟨more ob1 wr w3, oa1, okx3, (HT.out.right ht).swap, hR, fun k hk => .inl (hkx k hk), HBL.out.trans ht.2.2⟩ : FD w B gb ga (outL D2) (outL A) (.slice A3 D2.out.length c3) D2.out 0 w3)); (clear ht hR hkx hs))
      have hnb2 := OK2.out.out
      generalize hnl2 : D2.out.length = n2 at *
      have HN2 := Lib.hid hnl2
      clear hnl2 hd
      go_loopg [7] n2 (fun m v wr => ∃ i : Nat, m = n2 - i ∧ i ≤ n2 ∧ v = .int .i64 (i : Int) ∧ FD w B gb ga (outL D2) (outL A) (.slice A3 n2 c3) D2.out i wr)
      case atStart => exact ⟨0, rfl, Nat.zero_le _, rfl, F3.out⟩
      case round =>
        obtain ⟨j, hm, hin, rfl, hF⟩ := hrel
        have HM2 := Lib.hid hm
        have HIN2 := Lib.hid hin
        have HF2 := Lib.hid hF
        clear hm hin hF
        by_cases hlt : (j : Int) < (n2 : Int)
        · have hd : decide ((j : Int) < (n2 : Int)) = true := by simp [hlt]
          obtain ⟨oa4, ob4, okx4, hT, hR, hkx, hbl⟩ := HF2.out
          obtain ⟨gx4, cs4, hA4, hM, hrg, hcl, hnp⟩ := pkt_elem hR j (by omega)
          subst hA4
          have HT4 := Lib.hid hT
          have HR4 := Lib.hid hR
          have HKX4 := Lib.hid hkx
          have HBL4 := Lib.hid hbl
          have HMM4 := Lib.hid hM
          have HRG4 := Lib.hid hrg
          have HCL4 := Lib.hid hcl
          have HLT4 := Lib.hid (show j < D2.out.length by have := HN2.out; omega)
          clear hT hR hkx hbl hM hrg hcl hnp
          go_wp2_with (first | ((with_reducible refine gate_dst (N := 34) rfl ?_); (refine wpList_load_mid rfl 27 (.tmp 33) rfl gx4 (j * 10) (by first | rfl | (simp; done)) cs4 _ HRG4.out Try.underlying27 rfl (by rw [HCL4.out]; kernel_rfl) ?_)) | (go_at_call 34; (refine (take_end HT4.out.b (two_B HT4.out) (feed_ok (by decide) (fun p hp => GD.out p (List.mem_of_mem_take hp)) (outL_ok OKA.out)) 1 (D2.out.getD j nilP) (by decide) (good_at GD.out j HLT4.out) HMM4.out (fun k hk => HT4.out.apart k (HKX4.out k hk))).mono ?_); (rintro e w9 hTT); (have HTT := Lib.hid (FD.step HLT4.out HT4.out HR4.out HKX4.out HBL4.out hTT)); (obtain ⟨vb, okb, rfl, _⟩ := hTT)))
          go_roundg (n2 - (j + 1))
          case measure => have := HM2.out; have := HN2.out; have := HLT4.out; omega
          case rel => exact ⟨j + 1, rfl, by have := HN2.out; have := HLT4.out; omega, by first | rfl | simp, HTT.out⟩
        · have hd : decide ((j : Int) < (n2 : Int)) = false := by simp; omega
          have hje : j = n2 := by have := HIN2.out; omega
          subst hje
          go_wp2_with fail
          go_end0
          obtain ⟨oa4, ob4, okx4, hT, hR, hkx, hbl⟩ := HF2.out
          refine ⟨rfl, ⟨ob4, oa4, ?_⟩, hbl⟩
          have e1 : (swapF A D).1 = feed 1 (outL A) D2.out := by unfold swapF; rw [HD2.out]
          have e2 : (swapF A D).2 = outL D2 := by unfold swapF; rw [HD2.out]
          rw [e1, e2]
          rw [List.take_of_length_le (by have := HN2.out; omega)] at hT
          exact hT.swap
end Go.Proofs.Ytnkkgofpifhoeaa.Lk
