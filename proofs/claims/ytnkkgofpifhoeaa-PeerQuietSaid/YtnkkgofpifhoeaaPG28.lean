/- What the laws of a pair are proved with: links and pairs in memory, what their methods do, what a pair keeps to (part 28). -/
import Derived.Test.YtnkkgofpifhoeaaPG27
import Derived.Deep.LoopGhost
import Derived.Laws.StructEq
import Derived.Deep.MidRow
import Derived.ArgAppend
import Derived.LoopN
set_option linter.unusedSimpArgs false
set_option linter.unusedVariables false
set_option maxRecDepth 100000
set_option maxHeartbeats 16000000
section
namespace Go.Proofs.Ytnkkgofpifhoeaa.Pe
open Go.RowKit Go.Proofs.Ytnkkgofpifhoeaa.Base Go.Proofs.Ytnkkgofpifhoeaa.Steps Go.Proofs.Ytnkkgofpifhoeaa.Lk Go.Proofs.YtnkkgofpifhoeaaW.PrintWords Go.Proofs.YtnkkgofpifhoeaaW.PrintLast
theorem VP {w wr:World} {Ba ga Bb gb:Nat} (h:TW w Ba ga Bb gb (fun _ => False) (al 5).1 (al 5).2 wr):LS w Ba ga Bb gb (Eo 1 [(2,true)] 0 0) (Eo 1 [(1,true)] 0 0) wr:=by
 have hi:=MQ 5
 refine ⟨_,_,⟨hi.1,rfl,hi.2.2.2.2.1,.inl ⟨rfl,rfl⟩⟩,⟨hi.2.1,rfl,hi.2.2.2.2.2.1,.inr ⟨rfl,rfl⟩⟩,⟨0,[],0,N9.1,rfl,fun p hp => (by cases hp),KF,KF⟩,⟨0,[],0,N9.2,rfl,fun p hp => (by cases hp),KF,KF⟩,h⟩
theorem P5 (w:World) (gap rounds silent:Int) (hg:0 ≤ gap ∧ gap < 256) (hr:0 ≤ rounds ∧ rounds < 256) (hs:0 ≤ silent ∧ silent < 256):Calls Try.prog 14 #[.int .u8 gap,.int .u8 rounds,.int .u8 silent] w fun e w' => e = .returned (.bool true) ∧ Below w.heap.size w w':=by
 have hg0:=hg.1
 have hg1:=hg.2
 have hr0:=hr.1
 have hr1:=hr.2
 have hs0:=hs.1
 have hs1:=hs.2
 clear hg hr hs
 go_enter Try.func14,Try.ntmps14
 go_wp2_with (first | (go_at_call 49; (have hz:=XD w); (with_reducible refine hz.mono ?_); clear hz; rintro e w0 ⟨rfl,hb0⟩; (have HB0:=Lib.hid hb0); (clear hb0)) | (go_at_call 50; (have hz:Calls Try.prog 50 #[.int .i64 1,.int .i64 2,.int .u32 1] w0 _:=MM 1 2 (by decide) (by decide) w0); (with_reducible refine hz.mono ?_); clear hz; rintro e w1 ⟨ga,rfl,bf,hb1⟩; (have Yt:=Lib.hid bf); (have HB1:=Lib.hid hb1); (clear bf hb1)) | (go_at_call 50; (have hz:Calls Try.prog 50 #[.int .i64 2,.int .i64 2,.int .u32 1] w1 _:=MM 2 2 (by decide) (by decide) w1); (with_reducible refine hz.mono ?_); clear hz; rintro e w2 ⟨gb,rfl,bg,hb2⟩; (have HT0:=Lib.hid (Qo w0 w1 w2 Yt.out HB1.out bg hb2)); (clear bg hb2)))
 generalize w1.heap.size = Bb at *
 generalize hba:w0.heap.size = Ba at *
 go_loopg [11] 5 (fun m u wr => ∃ i:Nat,m = 5 - i ∧ i ≤ 5 ∧ u = .int .i64 (i:Int) ∧ TW w0 Ba ga Bb gb (fun _ => False) (al i).1 (al i).2 wr)
 case atStart => exact ⟨0,rfl,by decide,rfl,HT0.out⟩
 case round =>
  obtain ⟨wo,rfl⟩:∃ wo:World,wo = wr:=⟨_,rfl⟩
  obtain ⟨i,hm,hin,rfl,hT⟩:=hrel
  have HM:=Lib.hid hm
  have HT:=Lib.hid hT
  clear hT HT0 Yt HB1 hm
  by_cases hlt:i < 5
  ·have hd:decide ((i:Int) < 5) = true:=by simp; omega
   have hv:=MQ i
   have HC:=Lib.hid (show Calls Try.prog 52 #[.pointer (some ⟨ga,0,none⟩),.pointer (some ⟨gb,0,none⟩),.int .i64 1,.int .i64 2] wo _ from MP HT.out 1 2 hv.2.2.2.1 hv.2.2.1 hv.1 hv.2.1 (by rw [hv.2.2.2.2.1]; decide) (by rw [hv.2.2.2.2.2.1]; decide) (by have:=hv.2.2.2.2.2.2.1; omega) (by have:=hv.2.2.2.2.2.2.2; omega))
   clear hv
   go_wp2_with (go_at_call 52; (have hc:=HC.out); (with_reducible refine hc.mono ?_); clear hc; rintro e w5 ⟨v0,v1,rfl,-,hr5,bn,hk5⟩; (have nS:=Lib.hid bn); (clear hr5 bn hk5))
   go_roundg (5 - (i + 1))
   case measure => have:=HM.out; omega
   case rel => exact ⟨i + 1,rfl,by omega,by first | rfl | simp,nS.out⟩
  ·have hd:decide ((i:Int) < 5) = false:=by simp; omega
   have hie:i = 5:=by omega
   subst hie
   have rU:=Lib.hid (VP HT.out)
   clear HT
   go_wp2_with (first | (go_at_call 53; (have hc:=rU.out.Iz (fun v h => h.evs) (fun v h => h.OC)); (with_reducible refine hc.mono ?_); clear hc; rintro e w6 ⟨v,ok,rfl,hR,hL⟩; (obtain ⟨A6,c6,hv6⟩:=Kd.Am hR); (subst hv6); (have bG:=Lib.hid hL); (clear hR hL)) | (go_at_call 53; (have hc:=bG.out.Qq (fun v h => h.evs) (fun v h => h.OC)); (with_reducible refine hc.mono ?_); clear hc; rintro e w7 ⟨v,ok,rfl,hR,hL⟩; (obtain ⟨A7,c7,hv7⟩:=Kd.Am hR); (subst hv7); (have HL2:=Lib.hid hL); (clear hR hL)))
   obtain ⟨VZ,hstp⟩:∃ s:Nat,(s:Int) = 1 + gap % 10:=⟨(1 + gap % 10).toNat,by omega⟩
   rw [← hstp]
   have XF:=Lib.hid (show 1 ≤ VZ ∧ VZ ≤ 10 from by omega)
   obtain ⟨rn,hrn⟩:∃ s:Nat,(s:Int) = rounds % 20:=⟨(rounds % 20).toNat,by omega⟩
   have nX:=Lib.hid hrn
   clear hstp hrn rU bG
   go_loopg [13] rn (fun m u wr => ∃ i:Nat,m = rn - i ∧ i ≤ rn ∧ u = .int .i64 (i:Int) ∧ LS w0 Ba ga Bb gb (Eo 1 [] 0 0) (Eo 1 [] 0 0) wr)
   case atStart => exact ⟨0,rfl,Nat.zero_le _,rfl,HL2.out⟩
   case round =>
    obtain ⟨wp,rfl⟩:∃ wp:World,wp = wr:=⟨_,rfl⟩
    obtain ⟨i,hm,hin,rfl,hL⟩:=hrel
    have Si:=Lib.hid hm
    have AAC:=Lib.hid hin
    have jB:=Lib.hid hL
    clear hm hin hL HL2
    by_cases hlt2:i < rn
    ·have hd2:decide ((i:Int) < rounds % 20) = true:=by have:=nX.out; simp; omega
     have hib:i < 20:=by have:=nX.out; omega
     go_wp2_with fail
     go_loopg [14] VZ (fun m u wr => ∃ k:Nat,m = VZ - k ∧ k ≤ VZ ∧ u = .int .i64 (k:Int) ∧ LS w0 Ba ga Bb gb (Eo 1 [] (k:Int) k) (Eo 1 [] (k:Int) k) wr)
     case atStart => exact ⟨0,rfl,Nat.zero_le _,rfl,jB.out⟩
     case round =>
      obtain ⟨k,hm,hkn,rfl,hL⟩:=hrel
      have OI:=Lib.hid hm
      have VT:=Lib.hid hkn
      have Y9:=Lib.hid hL
      clear hm hkn hL jB
      by_cases hlk:k < VZ
      ·have hd3:decide ((k:Int) < (VZ:Int)) = true:=by simp; omega
       have hkb:k < 10:=by have:=XF.out; omega
       have HKB:=Lib.hid (show k ≤ 9 from by omega)
       go_wp2_with (first | (go_at_call 56; (have hc:=Y9.out.OA (QA:=Eo 1 [] ((k + 1:Nat):Int) (k + 1)) (fun v h => h.rg (by have:=HKB.out; omega) (by decide)) (fun v z h hz => (show Eo 1 [] ((k + 1:Nat):Int) (k + 1) _ from by rw [show ((k + 1:Nat):Int) = (k:Int) + 1 from by omega]; exact h.tick (by decide) 2 hz (by have:=HKB.out; omega) (by have:=HKB.out; omega)))); (with_reducible refine hc.mono ?_); clear hc; rintro e w8 ⟨rfl,hL⟩; (have Qm:=Lib.hid hL); (clear hL)) | (go_at_call 56; (have hc:=Qm.out.OB (QB:=Eo 1 [] ((k + 1:Nat):Int) (k + 1)) (fun v h => h.rg (by have:=HKB.out; omega) (by decide)) (fun v z h hz => (show Eo 1 [] ((k + 1:Nat):Int) (k + 1) _ from by rw [show ((k + 1:Nat):Int) = (k:Int) + 1 from by omega]; exact h.tick (by decide) 1 hz (by have:=HKB.out; omega) (by have:=HKB.out; omega)))); (with_reducible refine hc.mono ?_); clear hc; rintro e w9 ⟨rfl,hL⟩; (have Ph:=Lib.hid hL); (clear hL)))
       go_roundg (VZ - (k + 1))
       case measure => have:=OI.out; omega
       case rel => exact ⟨k + 1,rfl,by omega,by first | rfl | simp,Ph.out⟩
      ·have hd3:decide ((k:Int) < (VZ:Int)) = false:=by simp; omega
       have hks:k = VZ:=by have:=VT.out; omega
       subst hks
       go_wp2_with (first | (go_at_call 52; (have hc:=Y9.out.swap (fun v h => h.rg (by have:=XF.out; omega) (by decide)) (fun v h => h.rg (by have:=XF.out; omega) (by decide)) (fun a b ha hb => Jj (.inr XF.out.1) ha hb)); (with_reducible refine hc.mono ?_); clear hc; rintro e w8 ⟨⟨vs,rfl⟩,hL⟩; (have Qm:=Lib.hid hL); (clear hL)) | (go_at_call 52; (have hc:=Qm.out.swap (fun v h => h.rg (by decide) (by decide)) (fun v h => h.rg (by decide) (by decide)) (fun a b ha hb => Jj (.inl rfl) ha hb)); (with_reducible refine hc.mono ?_); clear hc; rintro e w9 ⟨⟨vs,rfl⟩,hL⟩; (have Ph:=Lib.hid hL); (clear hL)) | (go_at_call 53; (have hc:=Ph.out.Iz (fun v h => h.evs) (fun v h => h.OC)); (with_reducible refine hc.mono ?_); clear hc; rintro e w10 ⟨v,ok,rfl,hR,hL⟩; (obtain ⟨cZ,cu,JO⟩:=Kd.Am hR); (rw [show ([]:List (Int × Bool)).length = 0 from rfl] at JO); (subst JO); (have Qi:=Lib.hid hL); (clear hR); (clear hL)) | (go_at_call 53; (have hc:=Qi.out.Qq (fun v h => h.evs) (fun v h => h.OC)); (with_reducible refine hc.mono ?_); clear hc; rintro e EX ⟨v,ok,rfl,hR,hL⟩; (obtain ⟨AAD,AAE,Xa⟩:=Kd.Am hR); (rw [show ([]:List (Int × Bool)).length = 0 from rfl] at Xa); (subst Xa); (have SI:=Lib.hid hL); (clear hR); (clear hL)) | (go_at_call 57; (have hc:=SI.out.nP (fun v h => h.phase)); (with_reducible refine hc.mono ?_); clear hc; rintro e w12 ⟨rV,rW,rfl,hL⟩; (have ZA:=Lib.hid hL); (clear hL)) | (go_at_call 57; (have hc:=ZA.out.nR (fun v h => h.phase)); (with_reducible refine hc.mono ?_); clear hc; rintro e FI ⟨rX,rY,rfl,hL⟩; (have P6:=Lib.hid hL); (clear hL)))
       go_roundg (rn - (i + 1))
       case measure => have:=Si.out; omega
       case rel => exact ⟨i + 1,rfl,by omega,by first | rfl | simp,P6.out⟩
    ·have hd2:decide ((i:Int) < rounds % 20) = false:=by have:=nX.out; simp; omega
     go_wp2_with fail
     obtain ⟨n,hn⟩:∃ s:Nat,(s:Int) = 1 + silent % 30:=⟨(1 + silent % 30).toNat,by omega⟩
     rw [← hn]
     have HN:=Lib.hid (show 1 ≤ n ∧ n ≤ 30 from by omega)
     clear hn
     go_loopg [16] n (fun m u wr => ∃ k:Nat,m = n - k ∧ k ≤ n ∧ u = .int .i64 (k:Int) ∧ LS w0 Ba ga Bb gb (SV k 2) (SV k 1) wr)
     case atStart => exact ⟨0,rfl,Nat.zero_le _,rfl,jB.out.mono (fun v h => .inl ⟨by omega,h⟩) (fun v h => .inl ⟨by omega,h⟩)⟩
     case round =>
      obtain ⟨k,hm,hkn,rfl,hL⟩:=hrel
      have HM4:=Lib.hid hm
      have ZI:=Lib.hid hkn
      have Y9:=Lib.hid hL
      clear hm hkn hL jB
      by_cases hlk:k < n
      ·have hd3:decide ((k:Int) < (n:Int)) = true:=by simp; omega
       have hkb:k < 30:=by have:=HN.out; omega
       go_wp2_with (first | (go_at_call 56; (have hc:=Y9.out.OA (QA:=fun v => SV (k + 1) 2 (JY v)) (fun v h => h.rg) (fun v z h hz => SV.tick (n:=2) h hz)); (with_reducible refine hc.mono ?_); clear hc; rintro e w8 ⟨rfl,hL⟩; (have Qm:=Lib.hid hL); (clear hL)) | (go_at_call 56; (have hc:=Qm.out.OB (QB:=fun v => SV (k + 1) 1 (JY v)) (fun v h => h.rg) (fun v z h hz => SV.tick (n:=1) h hz)); (with_reducible refine hc.mono ?_); clear hc; rintro e w9 ⟨rfl,hL⟩; (have Ph:=Lib.hid hL); (clear hL)) | (go_at_call 58; (have hc:=Ph.out.outA (QA:=SV (k + 1) 2) (fun v h => h)); (with_reducible refine hc.mono ?_); clear hc; rintro e w10 ⟨vo,rfl,hL⟩; (have Qi:=Lib.hid hL); (clear hL)) | (go_at_call 58; (have hc:=Qi.out.nO (QB:=SV (k + 1) 1) (fun v h => h)); (with_reducible refine hc.mono ?_); clear hc; rintro e EX ⟨vo2,rfl,hL⟩; (have SI:=Lib.hid hL); (clear hL)))
       go_roundg (n - (k + 1))
       case measure => have:=HM4.out; omega
       case rel => exact ⟨k + 1,rfl,by omega,by first | rfl | simp,SI.out⟩
      ·have hd3:decide ((k:Int) < (n:Int)) = false:=by simp; omega
       have hkn2:k = n:=by have:=ZI.out; omega
       subst hkn2
       by_cases hq:k ≤ 10
       ·have hd4:decide ((k:Int) ≤ 10) = true:=by simp; omega
        have Qm:=Lib.hid (show LS w0 Ba ga Bb gb (Eo 1 [] (k:Int) 0) (Eo 1 [] (k:Int) 0) _ from Y9.out.mono (fun v h => (h.resolve_right (fun x => by omega)).2) (fun v h => (h.resolve_right (fun x => by omega)).2))
        go_wp2_with (first | (go_at_call 53; (have hc:=Qm.out.Iz (fun v h => h.evs) (fun v h => h.OC)); (with_reducible refine hc.mono ?_); clear hc; rintro e w10 ⟨v,ok,rfl,hR,hL⟩; (obtain ⟨cZ,cu,JO⟩:=Kd.Am hR); (rw [show ([]:List (Int × Bool)).length = 0 from rfl] at JO); (subst JO); (have Ph:=Lib.hid hL); (clear hR); (clear hL)) | (go_at_call 54; (have hc:=Ph.out.Pz (fun v h => h.phase)); (with_reducible refine hc.mono ?_); clear hc; rintro e EX ⟨rfl,rfl⟩; skip))
        go_ret
        exact ⟨rfl,HB0.out.trans ((hba ▸ Ph.out.below).mono (by have:=HB0.out.size; omega))⟩
       ·have hd4:decide ((k:Int) ≤ 10) = false:=by simp; omega
        have Qm:=Lib.hid (show LS w0 Ba ga Bb gb (GM [(2,false)] (((k - 10) % 3:Nat):Int) []) (GM [(1,false)] (((k - 10) % 3:Nat):Int) []) _ from Y9.out.mono (fun v h => (h.resolve_left (fun x => by omega)).2) (fun v h => (h.resolve_left (fun x => by omega)).2))
        go_wp2_with (first | (go_at_call 53; (have hc:=Qm.out.Iz (fun v h => h.evs) (fun v h => h.OC)); (with_reducible refine hc.mono ?_); clear hc; rintro e w10 ⟨v,ok,rfl,hR,hL⟩; (obtain ⟨cZ,cu,JO⟩:=Kd.Am hR); (rw [show ([((2:Int),false)]:List (Int × Bool)).length = 1 from rfl] at JO); (subst JO); (have Ph:=Lib.hid hL); (obtain ⟨dA,dB,Xb,Xc⟩:=Iy hR 0 (by decide)); (subst dB); (have a0:w10.cell? ⟨dA,0,none⟩ = some (.int .i64 2):=Xb); (have a1:w10.cell? ⟨dA,1,none⟩ = some (.bool false):=Xc); (clear hR Xb Xc); (clear hL)) | (go_at_call 54; (have hc:=Ph.out.Pz (fun v h => h.phase)); (with_reducible refine hc.mono ?_); clear hc; rintro e EX ⟨rfl,rfl⟩; skip))
        obtain ⟨r,hr⟩:∃ r,r = (k - 10) % 3:=⟨_,rfl⟩
        rw [← hr] at Ph
        have HRR:=Lib.hid (show r ≤ 2 from by omega)
        clear hr Qm Y9 a0 a1
        go_loopg [18] 10 (fun m u wr => ∃ j:Nat,m = 10 - j ∧ j ≤ 10 ∧ u = .int .i64 (j:Int) ∧ ((r + j ≤ 2 ∧ LS w0 Ba ga Bb gb (GM [] ((r + j:Nat):Int) []) (GM [(1,false)] ((r + j:Nat):Int) []) wr) ∨ (3 ≤ r + j ∧ LS w0 Ba ga Bb gb (Eo 2 [(2,true)] 0 0) (Eo 2 [(1,false),(1,true)] 0 0) wr)))
        case atStart => exact ⟨0,rfl,by decide,rfl,.inl ⟨HRR.out,Ph.out⟩⟩
        case round =>
         obtain ⟨j,hm,hjn,rfl,hL⟩:=hrel
         have nY:=Lib.hid hm
         have HJ5:=Lib.hid hjn
         clear hm hjn Ph
         by_cases hlj:(j:Int) < 10
         ·have hd5:decide ((j:Int) < 10) = true:=by simp; omega
          rcases hL with ⟨hrj,hL⟩ | ⟨hrj,hL⟩
          ·by_cases h2:r + j = 2
           ·have Qi:=Lib.hid hL
            rw [h2] at Qi
            clear hL
            go_wp2_with (first | (go_at_call 56; (have hc:=Qi.out.OA (QA:=GM [] 0 [hi2]) (fun v h => h.rg (by decide)) (fun v z h hz => GM.Em h 2 z)); (with_reducible refine hc.mono ?_); clear hc; rintro e w12 ⟨rfl,hL⟩; (have SI:=Lib.hid hL); (clear hL)) | (go_at_call 56; (have hc:=SI.out.OB (QB:=GM [(1,false)] 0 [hi2]) (fun v h => h.rg (by decide)) (fun v z h hz => GM.Em h 1 z)); (with_reducible refine hc.mono ?_); clear hc; rintro e FI ⟨rfl,hL⟩; (have ZA:=Lib.hid hL); (clear hL)) | (go_at_call 52; (have hc:=ZA.out.swap (fun v h => h.rg (by decide)) (fun v h => h.rg (by decide)) (QA:=VN) (QB:=VO) (fun a b ha hb => Y5 ha hb)); (with_reducible refine hc.mono ?_); clear hc; rintro e I4 ⟨⟨vs,rfl⟩,hL⟩; (have P6:=Lib.hid hL); (clear hL)) | (go_at_call 52; (have hc:=P6.out.swap (fun v h => h.rg) (fun v h => h.rg) (fun a b ha hb => bZ ha hb)); (with_reducible refine hc.mono ?_); clear hc; rintro e IY ⟨⟨vs,rfl⟩,hL⟩; (have VQ:=Lib.hid hL); (clear hL)))
            go_roundg (10 - (j + 1))
            case measure => have:=nY.out; omega
            case rel => exact ⟨j + 1,rfl,by omega,by first | rfl | simp,.inr ⟨by omega,VQ.out⟩⟩
           ·have Qi:=Lib.hid hL
            clear hL
            have rZ:=Lib.hid (show r + j = 0 ∨ r + j = 1 from by omega)
            go_wp2_with (first | (go_at_call 56; (have hc:=Qi.out.OA (QA:=GM [] ((r + (j + 1):Nat):Int) []) (fun v h => h.rg (by decide)) (fun v z h hz => (show GM [] ((r + (j + 1):Nat):Int) [] _ from by rw [show ((r + (j + 1):Nat):Int) = ((r + j:Nat):Int) + 1 from by omega]; exact GM.VK h (by have:=rZ.out; omega) 2 z))); (with_reducible refine hc.mono ?_); clear hc; rintro e w12 ⟨rfl,hL⟩; (have SI:=Lib.hid hL); (clear hL)) | (go_at_call 56; (have hc:=SI.out.OB (QB:=GM [(1,false)] ((r + (j + 1):Nat):Int) []) (fun v h => h.rg (by decide)) (fun v z h hz => (show GM [(1,false)] ((r + (j + 1):Nat):Int) [] _ from by rw [show ((r + (j + 1):Nat):Int) = ((r + j:Nat):Int) + 1 from by omega]; exact GM.VK h (by have:=rZ.out; omega) 1 z))); (with_reducible refine hc.mono ?_); clear hc; rintro e FI ⟨rfl,hL⟩; (have ZA:=Lib.hid hL); (clear hL)) | (go_at_call 52; (have hc:=ZA.out.swap (fun v h => h.rg (by decide)) (fun v h => h.rg (by decide)) (fun a b ha hb => ha.swap hb 1 2)); (with_reducible refine hc.mono ?_); clear hc; rintro e I4 ⟨⟨vs,rfl⟩,hL⟩; (have P6:=Lib.hid hL); (clear hL)) | (go_at_call 52; (have hc:=P6.out.swap (fun v h => h.rg (by decide)) (fun v h => h.rg (by decide)) (fun a b ha hb => ha.swap hb 1 2)); (with_reducible refine hc.mono ?_); clear hc; rintro e IY ⟨⟨vs,rfl⟩,hL⟩; (have VQ:=Lib.hid hL); (clear hL)))
            go_roundg (10 - (j + 1))
            case measure => have:=nY.out; omega
            case rel => exact ⟨j + 1,rfl,by omega,by first | rfl | simp,.inl ⟨by omega,VQ.out⟩⟩
          ·have Qi:=Lib.hid hL
           clear hL
           go_wp2_with (first | (go_at_call 56; (have hc:=Qi.out.OA (QA:=Eo 2 [(2,true)] 1 1) (fun v h => h.rg (by decide) (by decide)) (fun v z h hz => h.tick (by decide) 2 hz (by decide) (by decide))); (with_reducible refine hc.mono ?_); clear hc; rintro e w12 ⟨rfl,hL⟩; (have SI:=Lib.hid hL); (clear hL)) | (go_at_call 56; (have hc:=SI.out.OB (QB:=Eo 2 [(1,false),(1,true)] 1 1) (fun v h => h.rg (by decide) (by decide)) (fun v z h hz => h.tick (by decide) 1 hz (by decide) (by decide))); (with_reducible refine hc.mono ?_); clear hc; rintro e FI ⟨rfl,hL⟩; (have ZA:=Lib.hid hL); (clear hL)) | (go_at_call 52; (have hc:=ZA.out.swap (fun v h => h.rg (by decide) (by decide)) (fun v h => h.rg (by decide) (by decide)) (fun a b ha hb => Jj (.inr (by decide)) ha hb)); (with_reducible refine hc.mono ?_); clear hc; rintro e I4 ⟨⟨vs,rfl⟩,hL⟩; (have P6:=Lib.hid hL); (clear hL)) | (go_at_call 52; (have hc:=P6.out.swap (fun v h => h.rg (by decide) (by decide)) (fun v h => h.rg (by decide) (by decide)) (fun a b ha hb => Jj (.inl rfl) ha hb)); (with_reducible refine hc.mono ?_); clear hc; rintro e IY ⟨⟨vs,rfl⟩,hL⟩; (have VQ:=Lib.hid hL); (clear hL)))
           go_roundg (10 - (j + 1))
           case measure => have:=nY.out; omega
           case rel => exact ⟨j + 1,rfl,by omega,by first | rfl | simp,.inr ⟨by omega,VQ.out⟩⟩
         ·have hd5:decide ((j:Int) < 10) = false:=by simp; omega
          have Qi:=Lib.hid (hL.resolve_left (fun x => by omega)).2
          clear hL
          go_wp2_with (first | (go_at_call 53; (have hc:=Qi.out.Iz (fun v h => h.evs) (fun v h => h.OC)); (with_reducible refine hc.mono ?_); clear hc; rintro e w12 ⟨v,ok,rfl,hR,hL⟩; (obtain ⟨AAH,AAI,Xd⟩:=Kd.Am hR); (rw [show ([((2:Int),true)]:List (Int × Bool)).length = 1 from rfl] at Xd); (subst Xd); (have SI:=Lib.hid hL); (obtain ⟨dD,dF,Xe,Xf⟩:=Iy hR 0 (by decide)); (subst dF); (have a0:w12.cell? ⟨dD,0,none⟩ = some (.int .i64 2):=Xe); (have a1:w12.cell? ⟨dD,1,none⟩ = some (.bool true):=Xf); (clear hR Xe Xf); (clear hL)) | (go_at_call 54; (have hc:=SI.out.Pz (fun v h => h.phase)); (with_reducible refine hc.mono ?_); clear hc; rintro e FI ⟨rfl,rfl⟩; skip) | (go_at_call 54; (have hc:=SI.out.Y4 (fun v h => h.phase)); (with_reducible refine hc.mono ?_); clear hc; rintro e FI ⟨rfl,rfl⟩; skip))
          go_ret
          exact ⟨rfl,HB0.out.trans ((hba ▸ SI.out.below).mono (by have:=HB0.out.size; omega))⟩
end Go.Proofs.Ytnkkgofpifhoeaa.Pe
end
