/- What the laws of a pair are proved with: links and pairs in memory, what their methods do, what a pair keeps to (part 7). -/
import Derived.Test.YtnkkgofpifhoeaaPE06
import Derived.Deep.MidRow
import Derived.Handy
set_option linter.unusedSimpArgs false
set_option linter.unusedVariables false
set_option maxRecDepth 100000
set_option maxHeartbeats 16000000
section
namespace Go.Proofs.Ytnkkgofpifhoeaa.Lk
open Go.RowKit Go.Proofs.Ytnkkgofpifhoeaa.Base Go.Proofs.Ytnkkgofpifhoeaa.Steps Go.Proofs.YtnkkgofpifhoeaaW.PrintWords Go.Proofs.YtnkkgofpifhoeaaW.PrintLast
def sends:Nat → Lk → Lk
 | 0,L => L
 | n + 1,L => emit_ (sends n L) (Dp L n)
def Bv (L:Lk) (d:Int):Lk:={ L with idle:=d }
def Dz (L:Lk):Lk :=
 if L.phase = 0 then L
 else if L.phase = 2 ∧ L.sent = 0 then Bv L 0
 else if L.idle + 1 < 3 then Bv L (L.idle + 1)
 else if L.phase = 1 then emit_ (Bv L 0) (Bc (Bv L 0))
 else sends L.sent.toNat (Bv L 0)
theorem WO (L:Lk) (p:Bz) (i:Int):Dp (emit_ L p) i = Dp L i:=by unfold emit_; split <;> rfl
theorem NW (n:Nat) (L:Lk) (i:Int):Dp (sends n L) i = Dp L i:=by
 induction n with
 | zero => rfl
 | succ n ih => exact (WO _ _ _).trans ih
theorem Tv (L:Lk) (p:Bz):(emit_ L p).queue = L.queue:=by unfold emit_; split <;> rfl
theorem Ls (n:Nat) (L:Lk):(sends n L).queue = L.queue:=by
 induction n with
 | zero => rfl
 | succ n ih => exact (Tv _ _).trans ih
theorem Q4 {L:Lk} (h:L.Ok) (n:Nat):(sends n L).Ok:=by
 induction n with
 | zero => exact h
 | succ n ih => exact PZ ih _
theorem MP {L:Lk} (h:L.Ok) {d:Int} (hd:0 ≤ d ∧ d ≤ 1000):(Bv L d).Ok:=⟨h.own,h.phase,h.token,h.AB,h.yours,h.queue,h.rows,h.sent,h.base,h.expected,hd,h.out⟩
theorem WQ {w:World} {B g:Nat} {Ak Aj:Nat → Prop} {L:Lk} {q o:Value} (h:At w B Ak Aj g L q o) (hok:L.Ok) (hB:B ≤ w.heap.size) (hp:L.phase = 0) {own:Nat → Prop} (ho:∀ k,holds Ak Aj g k → own k) :
  Calls Try.prog 33 #[.pointer (some ⟨g,0,none⟩)] w fun e w' => e = .returned (.tuple #[]) ∧ DC w B own g (L) w':=by
 have hl1:w.cell? ⟨g,1,none⟩ = some (.int .i64 L.phase):=(AA h.blk 1).trans rfl
 have Fa:w.cell? ⟨g,7,none⟩ = some (.int .i64 L.sent):=(AA h.blk 7).trans rfl
 have LH:w.cell? ⟨g,10,none⟩ = some (.int .i64 L.idle):=(AA h.blk 10).trans rfl
 have hs:=hok.sent
 have hid:=hok.idle
 have H:=Lib.hid h
 have OK:=Lib.hid hok
 have HOW:=Lib.hid ho
 clear h hok ho
 have hd:(L.phase == 0) = true:=by simp [hp]
 clear hp
 go_enter Try.func33,Try.ntmps33
 go_wp2_with (first | fail)
 all_goals ((first | go_end0 | (refine bodyPost_ret (results_none rfl _ _ _) rfl ?_)); exact ⟨rfl,DC.same ⟨_,_,_,_,H.out,HOW.out⟩⟩)
theorem WR {w:World} {B g:Nat} {Ak Aj:Nat → Prop} {L:Lk} {q o:Value} (h:At w B Ak Aj g L q o) (hok:L.Ok) (hB:B ≤ w.heap.size) (hp:L.phase = 2) (h0:L.sent = 0) {own:Nat → Prop} (ho:∀ k,holds Ak Aj g k → own k) :
  Calls Try.prog 33 #[.pointer (some ⟨g,0,none⟩)] w fun e w' => e = .returned (.tuple #[]) ∧ DC w B own g (Bv L 0) w':=by
 have hl1:w.cell? ⟨g,1,none⟩ = some (.int .i64 L.phase):=(AA h.blk 1).trans rfl
 have Fa:w.cell? ⟨g,7,none⟩ = some (.int .i64 L.sent):=(AA h.blk 7).trans rfl
 have LH:w.cell? ⟨g,10,none⟩ = some (.int .i64 L.idle):=(AA h.blk 10).trans rfl
 have hs:=hok.sent
 have hid:=hok.idle
 have H:=Lib.hid h
 have OK:=Lib.hid hok
 have HOW:=Lib.hid ho
 clear h hok ho
 have hd:(L.phase == 0) = false:=by simp [hp]
 have hd2:(L.phase == 2) = true:=by simp [hp]
 have hd3:(L.sent == 0) = true:=by simp [h0]
 clear hp h0
 go_enter Try.func33,Try.ntmps33
 go_wp2_with (first | ((with_reducible refine gate_ (.store 3 (.tmp 26) (.const (.int .i64 0))) rfl ?_); (refine AU (fun wz => At wz B Ak Aj g (Bv L (0)) q o ∧ Go.Proofs.Ytnkkgofpifhoeaa.Steps.At g w wz) rfl rfl ⟨_,(by have hz1:World.cell? _ ⟨g,10,none⟩ = some _:=(AA H.out.blk 10).trans rfl; have hz2:=AL H.out.blk 10; first | (go_simp; done) | (go_simp; rfl)),H.out.EP 10 _ rfl rfl rfl,Steps.At.set (Steps.At.refl _ _) _ _⟩ (fun Ce hF => ?_)); (have K1:=Lib.hid hF); (clear hF)))
 all_goals ((first | go_end0 | (refine bodyPost_ret (results_none rfl _ _ _) rfl ?_)); exact ⟨rfl,⟨⟨_,_,_,_,K1.out.1,fun k hk => .inl (HOW.out k hk)⟩,(Dx K1.out.2).mono (fun k hk => HOW.out k (.inr (.inr hk))),K1.out.2.below (Below.refl _ _) H.out.low⟩⟩)
theorem Z18 {p:Prop} (h:p:=by
 have hd4:decide (L.idle + 1 < 3) = true:=by simp [hi]
 clear hp
 go_enter Try.func33,Try.ntmps33
 go_wp2_with (first | ((with_reducible refine gate_ (.store 3 (.tmp 33) (.tmp 31)) rfl ?_); (refine AU (fun wz => At wz B Ak Aj g (Bv L (L.idle + 1)) q o ∧ Go.Proofs.Ytnkkgofpifhoeaa.Steps.At g w wz) rfl rfl ⟨_,(by have hz1:World.cell? _ ⟨g,10,none⟩ = some _:=(AA H.out.blk 10).trans rfl; have hz2:=AL H.out.blk 10; first | (go_simp; done) | (go_simp; rfl)),H.out.EP 10 _ rfl rfl rfl,Steps.At.set (Steps.At.refl _ _) _ _⟩ (fun Ce hF => ?_)); (have K1:=Lib.hid hF); (clear hF); (clear hl1 Fa LH); (have hl1:Ce.cell? ⟨g,1,none⟩ = some (.int .i64 L.phase):=(AA K1.out.1.blk 1).trans rfl); (have LH:Ce.cell? ⟨g,10,none⟩ = some (.int .i64 (L.idle + 1)):=(AA K1.out.1.blk 10).trans rfl)))
 all_goals ((first | go_end0 | (refine bodyPost_ret (results_none rfl _ _ _) rfl ?_)); exact ⟨rfl,⟨⟨_,_,_,_,K1.out.1,fun k hk => .inl (HOW.out k hk)⟩,(Dx K1.out.2).mono (fun k hk => HOW.out k (.inr (.inr hk))),K1.out.2.below (Below.refl _ _) H.out.low⟩⟩)):p:=h
theorem Tz {w:World} {B g:Nat} {Ak Aj:Nat → Prop} {L:Lk} {q o:Value} (h:At w B Ak Aj g L q o) (hok:L.Ok) (hB:B ≤ w.heap.size) (hp:L.phase = 1) (hi:L.idle + 1 < 3) {own:Nat → Prop} (ho:∀ k,holds Ak Aj g k → own k) :
  Calls Try.prog 33 #[.pointer (some ⟨g,0,none⟩)] w fun e w' => e = .returned (.tuple #[]) ∧ DC w B own g (Bv L (L.idle + 1)) w':=by
 have hl1:w.cell? ⟨g,1,none⟩ = some (.int .i64 L.phase):=(AA h.blk 1).trans rfl
 have Fa:w.cell? ⟨g,7,none⟩ = some (.int .i64 L.sent):=(AA h.blk 7).trans rfl
 have LH:w.cell? ⟨g,10,none⟩ = some (.int .i64 L.idle):=(AA h.blk 10).trans rfl
 have hs:=hok.sent
 have hid:=hok.idle
 have H:=Lib.hid h
 have OK:=Lib.hid hok
 have HOW:=Lib.hid ho
 clear h hok ho
 have hd:(L.phase == 0) = false:=by simp [hp]
 have hd2:(L.phase == 2) = false:=by simp [hp]
 exact Z18
theorem UA {w:World} {B g:Nat} {Ak Aj:Nat → Prop} {L:Lk} {q o:Value} (h:At w B Ak Aj g L q o) (hok:L.Ok) (hB:B ≤ w.heap.size) (hp:L.phase = 2) (h0:¬ L.sent = 0) (hi:L.idle + 1 < 3) {own:Nat → Prop} (ho:∀ k,holds Ak Aj g k → own k) :
  Calls Try.prog 33 #[.pointer (some ⟨g,0,none⟩)] w fun e w' => e = .returned (.tuple #[]) ∧ DC w B own g (Bv L (L.idle + 1)) w':=by
 have hl1:w.cell? ⟨g,1,none⟩ = some (.int .i64 L.phase):=(AA h.blk 1).trans rfl
 have Fa:w.cell? ⟨g,7,none⟩ = some (.int .i64 L.sent):=(AA h.blk 7).trans rfl
 have LH:w.cell? ⟨g,10,none⟩ = some (.int .i64 L.idle):=(AA h.blk 10).trans rfl
 have hs:=hok.sent
 have hid:=hok.idle
 have H:=Lib.hid h
 have OK:=Lib.hid hok
 have HOW:=Lib.hid ho
 clear h hok ho
 have hd:(L.phase == 0) = false:=by simp [hp]
 have hd2:(L.phase == 2) = true:=by simp [hp]
 have hd3:(L.sent == 0) = false:=by simp [h0]
 clear h0
 exact Z18
theorem UB {w:World} {B g:Nat} {Ak Aj:Nat → Prop} {L:Lk} {q o:Value} (h:At w B Ak Aj g L q o) (hok:L.Ok) (hB:B ≤ w.heap.size) (hp:L.phase = 1) (hi:¬ L.idle + 1 < 3) {own:Nat → Prop} (ho:∀ k,holds Ak Aj g k → own k) :
  Calls Try.prog 33 #[.pointer (some ⟨g,0,none⟩)] w fun e w' => e = .returned (.tuple #[]) ∧ DC w B own g (emit_ (Bv L 0) (Bc (Bv L 0))) w':=by
 have hl1:w.cell? ⟨g,1,none⟩ = some (.int .i64 L.phase):=(AA h.blk 1).trans rfl
 have Fa:w.cell? ⟨g,7,none⟩ = some (.int .i64 L.sent):=(AA h.blk 7).trans rfl
 have LH:w.cell? ⟨g,10,none⟩ = some (.int .i64 L.idle):=(AA h.blk 10).trans rfl
 have hs:=hok.sent
 have hid:=hok.idle
 have H:=Lib.hid h
 have OK:=Lib.hid hok
 have HOW:=Lib.hid ho
 clear h hok ho
 have hd:(L.phase == 0) = false:=by simp [hp]
 have hd2:(L.phase == 2) = false:=by simp [hp]
 have hd5:(L.phase == 1) = true:=by simp [hp]
 have hd4:decide (L.idle + 1 < 3) = false:=by simp; omega
 clear hp
 go_enter Try.func33,Try.ntmps33
 go_wp2_with (first | ((with_reducible refine gate_ (.store 3 (.tmp 33) (.tmp 31)) rfl ?_); (refine AU (fun wz => At wz B Ak Aj g (Bv L (L.idle + 1)) q o ∧ Go.Proofs.Ytnkkgofpifhoeaa.Steps.At g w wz) rfl rfl ⟨_,(by have hz1:World.cell? _ ⟨g,10,none⟩ = some _:=(AA H.out.blk 10).trans rfl; have hz2:=AL H.out.blk 10; first | (go_simp; done) | (go_simp; rfl)),H.out.EP 10 _ rfl rfl rfl,Steps.At.set (Steps.At.refl _ _) _ _⟩ (fun Ce hF => ?_)); (have K1:=Lib.hid hF); (clear hF); (clear hl1 Fa LH); (have hl1:Ce.cell? ⟨g,1,none⟩ = some (.int .i64 L.phase):=(AA K1.out.1.blk 1).trans rfl); (have LH:Ce.cell? ⟨g,10,none⟩ = some (.int .i64 (L.idle + 1)):=(AA K1.out.1.blk 10).trans rfl)) | ((with_reducible refine gate_ (.store 3 (.tmp 41) (.const (.int .i64 0))) rfl ?_); (refine AU (fun wz => At wz B Ak Aj g (Bv L (0)) q o ∧ Go.Proofs.Ytnkkgofpifhoeaa.Steps.At g w wz) rfl rfl ⟨_,(by have hz1:World.cell? _ ⟨g,10,none⟩ = some _:=(AA K1.out.1.blk 10).trans rfl; have hz2:=AL K1.out.1.blk 10; first | (go_simp; done) | (go_simp; rfl)),K1.out.1.EP 10 _ rfl rfl rfl,Steps.At.set K1.out.2 _ _⟩ (fun BZ hF => ?_)); (have K2:=Lib.hid hF); (clear hF); (clear hl1 LH); (have hl1:BZ.cell? ⟨g,1,none⟩ = some (.int .i64 L.phase):=(AA K2.out.1.blk 1).trans rfl); (have Fa:BZ.cell? ⟨g,7,none⟩ = some (.int .i64 L.sent):=(AA K2.out.1.blk 7).trans rfl)) | (go_at_call 73; (refine (Hu K2.out.1 (MP OK.out (by decide)) (by have:=K2.out.2.size; omega)).mono ?_); (rintro e w9 ⟨rfl,hE⟩); (have HE:=Lib.hid hE); (clear hE)))
 all_goals ((first | go_end0 | (refine bodyPost_ret (results_none rfl _ _ _) rfl ?_)); exact ⟨rfl,DC.trans (⟨⟨_,_,_,_,K2.out.1,fun k hk => .inl (HOW.out k hk)⟩,(Dx K2.out.2).mono (fun k hk => HOW.out k (.inr (.inr hk))),K2.out.2.below (Below.refl _ _) H.out.low⟩:DC w B own g (Bv L 0) BZ) ((CJ.turns (fun k hk => .inl (HOW.out k hk)) HE.out))⟩)
theorem UC {w:World} {B g:Nat} {Ak Aj:Nat → Prop} {L:Lk} {q o:Value} (h:At w B Ak Aj g L q o) (hok:L.Ok) (hB:B ≤ w.heap.size) (hp:L.phase = 2) (h0:¬ L.sent = 0) (hi:¬ L.idle + 1 < 3) {own:Nat → Prop} (ho:∀ k,holds Ak Aj g k → own k) :
  Calls Try.prog 33 #[.pointer (some ⟨g,0,none⟩)] w fun e w' => e = .returned (.tuple #[]) ∧ DC w B own g (sends L.sent.toNat (Bv L 0)) w':=by
 have hl1:w.cell? ⟨g,1,none⟩ = some (.int .i64 L.phase):=(AA h.blk 1).trans rfl
 have Fa:w.cell? ⟨g,7,none⟩ = some (.int .i64 L.sent):=(AA h.blk 7).trans rfl
 have LH:w.cell? ⟨g,10,none⟩ = some (.int .i64 L.idle):=(AA h.blk 10).trans rfl
 have hs:=hok.sent
 have hid:=hok.idle
 have H:=Lib.hid h
 have OK:=Lib.hid hok
 have HOW:=Lib.hid ho
 clear h hok ho
 have hd:(L.phase == 0) = false:=by simp [hp]
 have hd2:(L.phase == 2) = true:=by simp [hp]
 have hd3:(L.sent == 0) = false:=by simp [h0]
 have hd5:(L.phase == 1) = false:=by simp [hp]
 have hd4:decide (L.idle + 1 < 3) = false:=by simp; omega
 clear hp h0
 go_enter Try.func33,Try.ntmps33
 go_wp2_with (first | ((with_reducible refine gate_ (.store 3 (.tmp 33) (.tmp 31)) rfl ?_); (refine AU (fun wz => At wz B Ak Aj g (Bv L (L.idle + 1)) q o ∧ Go.Proofs.Ytnkkgofpifhoeaa.Steps.At g w wz) rfl rfl ⟨_,(by have hz1:World.cell? _ ⟨g,10,none⟩ = some _:=(AA H.out.blk 10).trans rfl; have hz2:=AL H.out.blk 10; first | (go_simp; done) | (go_simp; rfl)),H.out.EP 10 _ rfl rfl rfl,Steps.At.set (Steps.At.refl _ _) _ _⟩ (fun Ce hF => ?_)); (have K1:=Lib.hid hF); (clear hF); (clear hl1 Fa LH); (have hl1:Ce.cell? ⟨g,1,none⟩ = some (.int .i64 L.phase):=(AA K1.out.1.blk 1).trans rfl); (have LH:Ce.cell? ⟨g,10,none⟩ = some (.int .i64 (L.idle + 1)):=(AA K1.out.1.blk 10).trans rfl)) | ((with_reducible refine gate_ (.store 3 (.tmp 41) (.const (.int .i64 0))) rfl ?_); (refine AU (fun wz => At wz B Ak Aj g (Bv L (0)) q o ∧ Go.Proofs.Ytnkkgofpifhoeaa.Steps.At g w wz) rfl rfl ⟨_,(by have hz1:World.cell? _ ⟨g,10,none⟩ = some _:=(AA K1.out.1.blk 10).trans rfl; have hz2:=AL K1.out.1.blk 10; first | (go_simp; done) | (go_simp; rfl)),K1.out.1.EP 10 _ rfl rfl rfl,Steps.At.set K1.out.2 _ _⟩ (fun BZ hF => ?_)); (have K2:=Lib.hid hF); (clear hF); (clear hl1 LH); (have hl1:BZ.cell? ⟨g,1,none⟩ = some (.int .i64 L.phase):=(AA K2.out.1.blk 1).trans rfl); (have Fa:BZ.cell? ⟨g,7,none⟩ = some (.int .i64 L.sent):=(AA K2.out.1.blk 7).trans rfl)))
 go_loopg [53] L.sent.toNat (fun n v wr => ∃ i:Nat,n = L.sent.toNat - i ∧ i ≤ L.sent.toNat ∧ v = .int .i64 (i:Int) ∧ CJ BZ B Ak Aj g (sends i (Bv L 0)) q wr)
 case atStart => exact ⟨0,rfl,Nat.zero_le _,rfl,CJ.same K2.out.1⟩
 case round =>
  obtain ⟨i,hn,hle,rfl,hE⟩:=hrel
  have HE:=Lib.hid hE
  have HN:=Lib.hid hn
  have nZ:=Lib.hid hle
  clear hE hn hle
  by_cases hlt:(i:Int) < L.sent
  ·have hd8:decide ((i:Int) < L.sent) = true:=by simp [hlt]
   have WS:=Lib.hid hlt
   obtain ⟨o',h1,h2,h3⟩:=HE.out
   have H1:=Lib.hid h1
   have H2:=Lib.hid h2
   have H3:=Lib.hid h3
   clear h1 h2 h3
   have OK3:=Lib.hid (Q4 (MP OK.out (d:=0) (by decide)) i)
   have HI1:=Lib.hid (show (i:Int) < ((sends i (Bv L 0)).queue.length:Int) by rw [Ls]; show (i:Int) < (L.queue.length:Int); omega)
   go_wp2_with (go_at_call 75; (refine (Pg (i:=(i:Int)) H1.out OK3.out (Nat.le_trans hB (Nat.le_trans (Nat.le_of_eq K2.out.2.size.symm) H2.out.1)) (Int.natCast_nonneg i) HI1.out).mono ?_); (rintro e w9 ⟨rfl,hE⟩); (have HE2:=Lib.hid hE); (clear hE))
   go_roundg (L.sent.toNat - (i + 1))
   case measure => have:=HN.out; have:=WS.out; omega
   case rel =>
    refine ⟨i + 1,rfl,by have:=WS.out; omega,by simp,?_⟩
    have e:=CJ.chain (fun k hk => (K2.out.1.old k (.inl hk)).1) (AQ K2.out.1.blk) K2.out.1.low H2.out H3.out (Steps.At.refl _ _) HE2.out
    rw [NW] at e
    exact e
  ·have hd8:decide ((i:Int) < L.sent) = false:=by simp; omega
   have HI:=Lib.hid (show i = L.sent.toNat by have:=nZ.out; omega)
   go_wp2_with fail
   all_goals ((first | go_end0 | (refine bodyPost_ret (results_none rfl _ _ _) rfl ?_)); exact ⟨rfl,DC.trans (⟨⟨_,_,_,_,K2.out.1,fun k hk => .inl (HOW.out k hk)⟩,(Dx K2.out.2).mono (fun k hk => HOW.out k (.inr (.inr hk))),K2.out.2.below (Below.refl _ _) H.out.low⟩:DC w B own g (Bv L 0) BZ) ((CJ.turns (fun k hk => .inl (HOW.out k hk)) (HI.out ▸ HE.out)))⟩)
theorem VR {w:World} {B g:Nat} {own:Nat → Prop} {L:Lk} (h:End w B own g L) (hok:L.Ok) (hB:B ≤ w.heap.size) :
  Calls Try.prog 33 #[.pointer (some ⟨g,0,none⟩)] w fun e w' => e = .returned (.tuple #[]) ∧ DC w B own g (Dz L) w':=by
 obtain ⟨Ak,Aj,q,o,h,ho⟩:=h
 have hp:=hok.phase
 unfold Dz
 by_cases h0:L.phase = 0
 ·rw [if_pos h0]; exact WQ h hok hB h0 ho
 rw [if_neg h0]
 by_cases h2:L.phase = 2
 ·by_cases hs:L.sent = 0
  ·rw [if_pos ⟨h2,hs⟩]; exact WR h hok hB h2 hs ho
  ·rw [if_neg (fun x => hs x.2)]
   by_cases hi:L.idle + 1 < 3
   ·rw [if_pos hi]; exact UA h hok hB h2 hs hi ho
   ·rw [if_neg hi,if_neg (by omega)]; exact UC h hok hB h2 hs hi ho
 ·rw [if_neg (fun x => h2 x.1)]
  have h1:L.phase = 1:=by omega
  by_cases hi:L.idle + 1 < 3
  ·rw [if_pos hi]; exact Tz h hok hB h1 hi ho
  ·rw [if_neg hi,if_pos h1]; exact UB h hok hB h1 hi ho
end Go.Proofs.Ytnkkgofpifhoeaa.Lk
end
section
namespace Go.Proofs.Ytnkkgofpifhoeaa.Lk
open Go.RowKit Go.Proofs.Ytnkkgofpifhoeaa.Base Go.Proofs.Ytnkkgofpifhoeaa.Pk Go.Proofs.YtnkkgofpifhoeaaW.PrintWords Go.Proofs.YtnkkgofpifhoeaaW.PrintLast
structure Bz.Good (p:Bz):Prop where
 XZ:p.NT
 check:Bg p.kind p.mine p.AB p.yours p.seq p.AV p.stamp p.echo p.zr p.zi p.body.length = 0
 len:p.body.length ≤ 1000
section
variable {w:World} {B g:Nat} {own:Nat → Prop} {L:Lk} (h:End w B own g L) (hB:B ≤ w.heap.size)
include h
theorem phase_end:Calls Try.prog 29 #[.pointer (some ⟨g,0,none⟩)] w fun e w' => e = .returned (.int .i64 L.phase) ∧ w = w':=by
 obtain ⟨_,_,_,_,h,_⟩:=h
 exact Xp h
theorem Ot:Calls Try.prog 31 #[.pointer (some ⟨g,0,none⟩)] w fun e w' => e = .returned (.int .i64 L.queue.length) ∧ w = w':=by
 obtain ⟨_,_,_,_,h,_⟩:=h
 exact Xq h
include hB
theorem Q5 (hok:L.Ok):Calls Try.prog 27 #[.pointer (some ⟨g,0,none⟩)] w fun e w' => e = .returned (.int .i64 (EK L)) ∧ DC w B own g (DN L) w':=by
 obtain ⟨_,_,_,_,h,ho⟩:=h
 exact (aY h hok hB).mono fun e w' hq => ⟨hq.1,KO.turns ho hq.2⟩
omit hB in
theorem KR:Calls Try.prog 78 #[.pointer (some ⟨g,0,none⟩)] w fun e w' => e = .returned (.bool (decide (L.phase = 2))) ∧ DC w B own g (Aa L) w':=by
 obtain ⟨_,_,_,_,h,ho⟩:=h
 refine (VJ h).mono fun e w' hq => ⟨hq.1,⟨⟨_,_,_,_,hq.2.1,fun k hk => .inl (ho k ?_)⟩,(Dx hq.2.2).mono (fun k hk => ho k (.inr (.inr hk))),hq.2.2.below (Below.refl _ _) h.low⟩⟩
 rcases hk with hk | hk | hk
 ·exact hk.elim
 ·exact .inr (.inl hk)
 ·exact .inr (.inr hk)
theorem KT (hok:L.Ok) (body:List Int) (Ab:Option Addr) (cb:Nat) (hC:(Kd.int .u8).C w Ab body.length body) :
  Calls Try.prog 30 #[.pointer (some ⟨g,0,none⟩),.slice Ab body.length cb] w fun e w' => e = .returned (.int .i64 (Bq L body.length)) ∧ DC w B own g (Be L body) w':=by
 obtain ⟨_,_,_,_,h,ho⟩:=h
 exact af h hok hB body Ab cb hC ho
theorem DL (hok:L.Ok) (AB:Int) (p:Bz) (hb:0 < AB ∧ AB < 4294967296) (hp:p.Good) {CY:Nat → Prop} {cs:List Value} (hM:pkt.M w B CY p cs) (hkp:∀ k,CY k → ¬ own k) :
  Calls Try.prog 34 #[.pointer (some ⟨g,0,none⟩),.int .u32 AB,.agg cs.toArray] w (En w B own g (Bf L AB p)):=by
 obtain ⟨_,_,_,_,h,ho⟩:=h
 obtain ⟨b,rfl,hR⟩:=DY.1 hM
 obtain ⟨Ab,cb,rfl,hlen⟩:=Kd.Am hR
 exact az h hok ho hB AB p Ab cb (by omega) (by omega) hp.XZ hp.check hp.len hR hkp
end
theorem EW.turns {w:World} {B g:Nat} {own:Nat → Prop} {x:Lk × Tk} {e:Ending} {w':World} (h:En w B own g x e w'):DC w B own g x.1 w':=by
 obtain ⟨vb,okb,he,hR,hk,hE,hK,hb⟩:=h
 exact ⟨hE.mono (fun k hk => hk.elim .inl (fun hn => .inr ⟨hn.1,hn.2.1⟩)),hK,hb⟩
def Oe:Bz:=⟨0,0,0,0,0,0,0,0,0,0,[]⟩
theorem Q7 {w:World} {B:Nat} {JP:Nat → Prop} {A:Option Addr} {n c:Nat} {ps:List Bz} (h:pkt.R 27 w B JP (.slice A n c) ps) (i:Nat) (hi:i < n) :
  ∃ gx cs,A = some ⟨gx,0,none⟩ ∧ pkt.M w B JP (ps.getD i Oe) cs ∧ w.rangeAt gx (i * 10) cs ∧ cs.length = 10 ∧ n = ps.length:=by
 obtain ⟨hn,hnc,hC⟩:=Kd.Bi h
 obtain ⟨gx,cap,he,_⟩:=Kd.Jt h (by omega)
 injection he with h1 h2 h3
 subst h1
 obtain ⟨cs,hl,hM,hc,_⟩:=Kd.NI h Oe (i:Int) (by omega) (by omega)
 refine ⟨gx,cs,rfl,pkt.BU (fun k hk => hk.1) hM,?_,hl,hn⟩
 intro j u hu
 have:=hc j u hu
 simpa [iq] using this
def Fq (L:Lk):Lk:={ L with out:=[] }
theorem bC {L:Lk} (h:L.Ok):(Fq L).Ok:=⟨h.own,h.phase,h.token,h.AB,h.yours,h.queue,h.rows,h.sent,h.base,h.expected,h.idle,Nat.zero_le _⟩
end Go.Proofs.Ytnkkgofpifhoeaa.Lk
end
section
namespace Go.Proofs.Ytnkkgofpifhoeaa.Lk
open Go.RowKit Go.Proofs.Ytnkkgofpifhoeaa.Pk Go.Proofs.Ytnkkgofpifhoeaa.nY
structure Lk.Fine (L:Lk):Prop where
 ok:L.Ok
 own:0 < L.own
 good:∀ p ∈ L.out,p.Good
 tok:L.phase ≠ 0 → 0 < L.token
 peer:L.known = true → 0 < L.AB ∧ 0 < L.yours
 up:L.phase = 2 → L.known = true
 full:∀ r ∈ L.queue,0 < r.length
 Ii:L.phase ≠ 2 → L.queue = []
theorem jS:(Jn 0 && Jn 0) = true:=by decide
theorem J3 {p:Bz} (h:p.Good):0 < p.mine ∧ (p.kind = 2 → 0 < p.body.length):=by
 have hc:=h.check
 have hm:=h.XZ.mine
 unfold Bg at hc
 split at hc
 ·rename_i hk
  split at hc
  ·rename_i hg
   have:p.mine ≠ 0:=by
    unfold good1 at hg
    simp only [Bool.and_eq_true,decide_eq_true_eq] at hg
    exact hg.1.1
   exact ⟨by omega,fun h => by omega⟩
  ·exact absurd hc (by decide)
 split at hc
 ·split at hc
  ·exact absurd hc (by decide)
  ·split at hc
   ·rename_i hg
    unfold I5 at hg
    simp only [Bool.and_eq_true,decide_eq_true_eq] at hg
    have:=hg.1.1
    exact ⟨by omega,fun _ => hg.1.2.2.2.1⟩
   ·exact absurd hc (by decide)
 split at hc
 ·split at hc
  ·rename_i hg
   unfold I7 at hg
   simp only [Bool.and_eq_true,decide_eq_true_eq] at hg
   have:=hg.1.1
   exact ⟨by omega,fun h => by omega⟩
  ·exact absurd hc (by decide)
 split at hc
 ·split at hc
  ·rename_i hg
   unfold Jo at hg
   simp only [Bool.and_eq_true,decide_eq_true_eq] at hg
   have:=hg.2.1
   exact ⟨by omega,fun h => by omega⟩
  ·exact absurd hc (by decide)
 ·exact absurd hc (by decide)
theorem UD {L:Lk} (h:L.Ok) {k s a:Int} {b:List Int} (hs:0 ≤ s ∧ s < 4294967296) (ha:0 ≤ a ∧ a < 4294967296) {x y:Int} (hx:0 ≤ x ∧ x < 4294967296) (hy:0 ≤ y ∧ y < 4294967296):(⟨k,L.token,x,y,s,a,0,0,0,0,b⟩:Bz).NT :=
 ⟨h.token,hx,hy,hs,ha,show (0:Nat) < 18446744073709551616 by decide,show (0:Nat) < 18446744073709551616 by decide⟩
theorem Eh {L:Lk} (h:L.Fine) (hp:L.phase ≠ 0):(Bc L).Good:=by
 have ht:=h.tok hp
 have hb:=h.ok.AB
 have hy:=h.ok.yours
 refine ⟨UD h.ok (by show 0 ≤ (if L.phase = 2 then (1:Int) else 0) ∧ _; split <;> decide) (by decide) (by show 0 ≤ (if L.known = true then L.AB else 0) ∧ _; split <;> omega) (by show 0 ≤ (if L.known = true then L.yours else 0) ∧ _; split <;> omega),?_,Nat.zero_le _⟩
 show Bg 1 L.token (if L.known = true then L.AB else 0) (if L.known = true then L.yours else 0) (if L.phase = 2 then (1:Int) else 0) 0 0 0 0 0 0 = 0
 unfold Bg
 rw [if_pos rfl]
 refine if_pos ?_
 unfold good1
 rw [Bool.and_eq_true]
 refine ⟨decide_eq_true ⟨by omega,by split <;> decide,?_,rfl,rfl,rfl,rfl⟩,jS⟩
 split
 ·rename_i hk
  have:=h.peer hk
  exact ⟨fun _ => this.2,fun _ => this.1⟩
 ·exact ⟨fun h => h,fun h => h⟩
theorem LJ {L:Lk} (h:L.Fine) (hp:L.phase = 2) (i:Int) (hi0:0 ≤ i) (hi:i < L.queue.length):(Dp L i).Good:=by
 have ht:=h.tok (by omega)
 have hk:=h.peer (h.up hp)
 have hr:L.queue.getD i.toNat [] ∈ L.queue:=by
  rw [List.getD_eq_getElem?_getD,List.getElem?_eq_getElem (by omega)]
  exact List.getElem_mem _
 have h1:=h.ok.rows _ hr
 have h2:=h.full _ hr
 refine ⟨UD h.ok (wrap32 _) h.ok.expected h.ok.AB h.ok.yours,?_,h1⟩
 show Bg 2 L.token L.AB L.yours _ L.expected 0 0 0 0 (L.queue.getD i.toNat []).length = 0
 unfold Bg
 rw [if_neg (by decide),if_pos rfl,if_neg (by omega)]
 refine if_pos ?_
 unfold I5
 rw [Bool.and_eq_true]
 exact ⟨decide_eq_true ⟨by omega,hk.1,hk.2,h2,rfl,rfl⟩,jS⟩
theorem Q8 {L:Lk} (h:L.Fine) (hp:L.phase = 2):(Hy L).Good:=by
 have ht:=h.tok (by omega)
 have hk:=h.peer (h.up hp)
 refine ⟨UD h.ok (by decide) h.ok.expected h.ok.AB h.ok.yours,?_,Nat.zero_le _⟩
 show Bg 3 L.token L.AB L.yours 0 L.expected 0 0 0 0 0 = 0
 unfold Bg
 rw [if_neg (by decide),if_neg (by decide),if_pos rfl]
 refine if_pos ?_
 unfold I7
 rw [Bool.and_eq_true]
 exact ⟨decide_eq_true ⟨by omega,hk.1,hk.2,rfl,rfl,rfl,rfl⟩,jS⟩
theorem Q9 {own:Int} (ho:0 < own ∧ own < 4294967296):(newL own).Fine :=
 ⟨aW own ho,ho.1,fun p hp => (by cases hp),fun h => absurd rfl h,fun h => (by cases h),fun h => (by cases h),fun r hr => (by cases hr),fun _ => rfl⟩
theorem ER {L:Lk} (h:L.Fine) {p:Bz} (hp:p.Good):(emit_ L p).Fine:=by
 have hok:=PZ h.ok p
 unfold emit_ at hok ⊢
 split
 ·rename_i hc
  rw [if_pos hc] at hok
  refine ⟨hok,h.own,fun q hq => ?_,h.tok,h.peer,h.up,h.full,h.Ii⟩
  rcases List.mem_append.1 hq with hq | hq
  ·exact h.good q hq
  ·rw [List.mem_singleton.1 hq]; exact hp
 ·exact h
theorem UE (L:Lk) (p:Bz):(emit_ L p).phase = L.phase:=by unfold emit_; split <;> rfl
theorem NZ {L:Lk} (h:L.Fine) (ht:L.token < 4294967295):(CB L).Fine:=by
 have:=h.ok.token
 exact ⟨NQ h.ok ht,h.own,h.good,fun _ => by show 0 < L.token + 1; omega,fun x => (by cases x),fun x => absurd (show (1:Int) = 2 from x) (by decide),fun r hr => (by cases hr),fun _ => rfl⟩
theorem WT {L:Lk} (h:L.Fine):(DN L).Fine:=by
 have:=h.ok.token
 unfold DN
 split
 ·rename_i hc
  have hb:=NZ h (by omega)
  exact ER hb (Eh hb (show (1:Int) ≠ 0 by decide))
 ·exact h
theorem Ou {L:Lk} (h:L.Fine):(Aa L).Fine :=
 ⟨aX h.ok,h.own,h.good,fun x => absurd rfl x,fun x => (by cases x),fun x => absurd (show (0:Int) = 2 from x) (by decide),fun r hr => (by cases hr),fun _ => rfl⟩
theorem YN {L:Lk} (h:L.Fine):(Fq L).Fine:=⟨bC h.ok,h.own,fun p hp => (by cases hp),h.tok,h.peer,h.up,h.full,h.Ii⟩
theorem WU {L:Lk} (h:L.Fine) (hd:L.sent < L.queue.length) (h8:L.sent < 8) (d:Int) (hdd:0 ≤ d ∧ d ≤ 1000):({ L with idle:=d,sent:=L.sent + 1 }:Lk).Fine :=
 ⟨KP h.ok hd h8 d hdd,h.own,h.good,h.tok,h.peer,h.up,h.full,h.Ii⟩
theorem RD {L:Lk} (h:L.Fine) (hd:L.sent < L.queue.length):L.phase = 2:=by
 have:=h.ok.sent
 by_cases hp:L.phase = 2
 ·exact hp
 ·rw [h.Ii hp] at hd; exact absurd hd (by simp; omega)
theorem Pv {L:Lk} (h:L.Fine) (hd:L.sent < L.queue.length) (h8:L.sent < 8):(Bj L).Fine:=by
 have hs:=h.ok.sent
 have hu:=RD h hd
 have hf:=WU h hd h8 (if L.sent = 0 then 0 else L.idle) (by have:=h.ok.idle; split <;> omega)
 exact ER hf (LJ h hu L.sent hs.1 hd)
theorem UF (n:Nat) {L:Lk} (h:L.Fine):(Dq n L).Fine:=by
 induction n generalizing L with
 | zero => exact h
 | succ n ih =>
  unfold Dq
  split
  ·rename_i hc; exact ih (Pv h hc.1 hc.2)
  ·exact h
theorem Ov {L:Lk} (h:L.Fine):(BL L).Fine:=UF _ h
theorem UG {L:Lk} (h:L.Fine) (body:List Int):(Be L body).Fine:=by
 unfold Be
 split
 ·rename_i hc
  have hx:L.phase = 2 ∧ ¬ (body.length = 0 ∨ 1000 < body.length) ∧ L.queue.length < 64:=by
   unfold Bq at hc
   split at hc
   ·split at hc
    ·exact absurd hc (by decide)
    ·split at hc
     ·exact absurd hc (by decide)
     ·rename_i a b c; exact ⟨a,b,by omega⟩
   ·exact absurd hc (by decide)
  refine Ov ⟨NR h.ok (by omega) hx.2.2,h.own,h.good,h.tok,h.peer,h.up,fun r hr => ?_,fun hp => absurd hx.1 hp⟩
  rcases List.mem_append.1 hr with hr | hr
  ·exact h.full r hr
  ·rw [List.mem_singleton.1 hr]; omega
 ·exact h
theorem Hz {L:Lk} (h:L.Fine) {d:Int} (hd:0 ≤ d ∧ d ≤ 1000):(Bv L d).Fine:=⟨MP h.ok hd,h.own,h.good,h.tok,h.peer,h.up,h.full,h.Ii⟩
theorem UH {L:Lk} (h:L.Fine) (n:Nat) (hn:(n:Int) ≤ L.sent):(sends n L).Fine:=by
 have hs:=h.ok.sent
 induction n with
 | zero => exact h
 | succ n ih => exact ER (ih (by omega)) (LJ h (by
   by_cases hp:L.phase = 2
   ·exact hp
   ·have:=h.Ii hp; rw [this] at hs; simp at hs; omega) n (by omega) (by omega))
theorem WV {L:Lk} (h:L.Fine):(Dz L).Fine:=by
 have hi:=h.ok.idle
 have hs:=h.ok.sent
 unfold Dz
 split
 ·exact h
 split
 ·exact Hz h (by decide)
 split
 ·exact Hz h (by omega)
 split
 ·rename_i h0 _ _ _
  exact ER (Hz h (by decide)) (Eh (Hz h (by decide)) h0)
 ·exact UH (Hz h (by decide)) _ (by show (L.sent.toNat:Int) ≤ L.sent; omega)
theorem Ox {L:Lk} (h:L.Fine) (hq:L.queue = []) {b:Int} (hb:0 < b ∧ b < 4294967296) {p:Bz} (hp:p.Good):(Cc L b p).Fine :=
 ⟨MO h.ok (by omega) hp.XZ.mine true,h.own,h.good,h.tok,fun _ => ⟨hb.1,(J3 hp).1⟩,fun _ => rfl,h.full,h.Ii⟩
theorem WW {L:Lk} (h:L.Fine):(BR L).Fine:=⟨MN h.ok,h.own,h.good,h.tok,h.peer,h.up,h.full,h.Ii⟩
theorem YO {L:Lk} (h:L.Fine) {k:Nat} (hk:(k:Int) ≤ L.sent):(CZ L k).Fine :=
 ⟨Jy h.ok hk,h.own,h.good,h.tok,h.peer,h.up,fun r hr => h.full r (List.mem_of_mem_drop hr),fun hp => by show L.queue.drop k = []; rw [h.Ii hp]; simp⟩
theorem RF (n:Nat) (L:Lk):(Dq n L).phase = L.phase:=by
 induction n generalizing L with
 | zero => rfl
 | succ n ih =>
  unfold Dq
  split
  ·rw [ih]; exact UE _ _
  ·rfl
theorem RG {L:Lk} (h:L.Fine) (p:Bz):(FU L p).Fine:=by unfold FU; split; exact WW h; exact h
theorem YP (L:Lk) (p:Bz):(FU L p).sent = L.sent:=by unfold FU; split <;> rfl
theorem Oy (L:Lk) (p:Bz):(FU L p).phase = L.phase:=by unfold FU; split <;> rfl
theorem WX (L:Lk) (p:Bz):(Je L p).phase = L.phase:=by
 unfold Je
 split
 ·exact (RF _ _).trans (Oy L p)
 ·exact Oy L p
theorem Na {L:Lk} (h:L.Fine) (p:Bz):(Je L p).Fine:=by
 unfold Je
 split
 ·rename_i hc; exact Ov (YO (RG h p) (by rw [YP]; exact hc.2))
 ·exact RG h p
theorem WY {L:Lk} (h:L.Fine) {b:Int} (hb:0 < b ∧ b < 4294967296) {p:Bz} (hp:p.Good):(Bf L b p).1.Fine:=by
 have ht:=h.ok.token
 have DT:=h.ok.phase
 unfold Bf
 split
 ·exact h
 rename_i h0
 split
 ·split
  ·rename_i h1
   have hq:=h.Ii (by omega)
   have hf:=Ox h hq hb hp
   split
   ·have hf2:({ Cc L b p with phase:=2 }:Lk).Fine:=⟨Qx hf.ok (by decide),hf.own,hf.good,fun _ => hf.tok (by show L.phase ≠ 0; omega),hf.peer,fun _ => rfl,hf.full,fun x => absurd rfl x⟩
    exact ER hf2 (Eh hf2 (show (2:Int) ≠ 0 by decide))
   ·exact ER hf (Eh hf (show L.phase ≠ 0 by omega))
  ·split
   ·show (if p.seq = 0 then emit_ L (Bc L) else L).Fine
    split
    ·exact ER h (Eh h (fun x => h0 (.inl x)))
    ·exact h
   ·split
    ·exact Ou h
    ·rename_i hmx
     have hf:=Ox (NZ h (by omega)) rfl hb hp
     exact ER hf (Eh hf (show (1:Int) ≠ 0 by decide))
 ·split
  ·rename_i hu
   show (KC L p).Fine
   unfold KC
   split
   ·exact ER (Na h p) (Q8 (Na h p) ((WX L p).trans hu.1))
   ·exact Na h p
  ·exact h
end Go.Proofs.Ytnkkgofpifhoeaa.Lk
end
section
namespace Go.Proofs.Ytnkkgofpifhoeaa.Fg
open Go.RowKit Go.Proofs.Ytnkkgofpifhoeaa.Steps Go.Proofs.YtnkkgofpifhoeaaW.PrintWords
def Full {α:Type} (d:Kd α) (w:World) (base:Nat) (ok:Nat → Prop) (v:Value) (xs:List α):Prop :=
 ∃ g off inner,v = .slice (some ⟨g,off,none⟩) xs.length xs.length ∧ ok g ∧ base ≤ g ∧ g < w.heap.size ∧ xs.length ≤ maxLen ∧ CV (d.M w base (fun k => ok k ∧ k ≠ g)) d.sz xs inner ∧ ∀ j u,inner[j]? = some u → w.cell? ⟨g,off + j,none⟩ = some u
def Fg {α:Type} (d:Kd α) (e:Nat) (w:World) (base:Nat) (ok:Nat → Prop) (v:Value) (xs:List α):Prop:=d.Q e w base ok v xs ∨ Full d w base ok v xs
section
variable {α:Type} {d:Kd α} {e base:Nat} {w w1:World} {ok ok' S:Nat → Prop} {v:Value} {xs:List α}
theorem Fg.nil (d:Kd α) (e:Nat) (w:World) (base:Nat) (ok:Nat → Prop):Fg d e w base ok (.slice none 0 0) []:=.inl (Kd.Xl _ _ _ _ _)
theorem Fg.mono (h:Fg d e w base ok v xs) (hm:∀ k,ok k → ok' k):Fg d e w base ok' v xs:=by
 rcases h with h | ⟨g,off,inner,h1,h2,h3,h4,h5,h6,h7⟩
 ·exact .inl (Kd.LG h hm)
 ·exact .inr ⟨g,off,inner,h1,hm g h2,h3,h4,h5,h6.Ep (fun _ _ hp => d.BU (fun k hk => ⟨hm k hk.1,hk.2⟩) hp),h7⟩
theorem Fg.bound (h:Fg d e w base ok v xs):Fg d e w base (fun k => ok k ∧ k < w.heap.size) v xs:=by
 rcases h with h | ⟨g,off,inner,h1,h2,h3,h4,h5,h6,h7⟩
 ·exact .inl (Kd.LG (Kd.PW h) (fun k hk => ⟨hk.1,hk.2.2.1⟩))
 ·exact .inr ⟨g,off,inner,h1,⟨h2,h4⟩,h3,h4,h5,h6.Ep (fun _ _ hp => d.BU (fun k hk => ⟨⟨hk.1.1,hk.2.2.1⟩,hk.1.2⟩) (d.CW hp)),h7⟩
theorem Fg.kept (h:Fg d e w base ok v xs) (hk:Kept w w1 S) (hd:∀ k,ok k → ¬ S k):Fg d e w1 base ok v xs:=by
 rcases h with h | ⟨g,off,inner,h1,h2,h3,h4,h5,h6,h7⟩
 ·exact .inl (Kd.NL h hk hd)
 ·exact .inr ⟨g,off,inner,h1,h2,h3,Nat.lt_of_lt_of_le h4 hk.1,h5,h6.Ep (fun _ _ hp => Kd.PX hp hk (fun k hx => hd k hx.1)),fun j u hu => cell_kept (h7 j u hu) hk (hd g h2)⟩
theorem Fg.reads (h:Fg d e w base ok v xs):∃ A c inner,v = .slice A xs.length c ∧ xs.length ≤ c ∧ CV (d.M w base ok) d.sz xs inner ∧ xs.length ≤ maxLen ∧ (0 < xs.length → ∃ g off,A = some ⟨g,off,none⟩ ∧ ok g ∧ base ≤ g ∧ g < w.heap.size ∧ CV (d.M w base (fun k => ok k ∧ k ≠ g)) d.sz xs inner ∧ ∀ j u,inner[j]? = some u → w.cell? ⟨g,off + j,none⟩ = some u):=by
 rcases h with ⟨h0,inner,⟨hl,hq⟩,hr⟩ | ⟨g,off,inner,h1,h2,h3,h4,h5,h6,h7⟩
 ·have hr':CV (d.M w base ok) d.sz xs inner:=hr.Ep (fun _ _ hp => d.BU (fun k hk => hk.1) hp)
  rcases hq with ⟨hn,A,hv,_⟩ | ⟨g,off,cap,cur,hv,hb,hg,hnc,hm,hcs,htake⟩
  ·exact ⟨A,0,inner,by rw [hv,hn],by omega,hr',by rw [hn]; exact Nat.zero_le _,fun hp => by omega⟩
  ·refine ⟨some ⟨g,off * d.sz,none⟩,cap,inner,hv,hnc,hr',by omega,fun _ => ⟨g,off * d.sz,rfl,h0 g (by rw [hv]; rfl),hb,AQ hg,hr.Ep (fun _ _ hp => d.BU (fun k hk => ⟨hk.1,fun he => hk.2 (by rw [hv,he]; rfl)⟩) hp),fun j u hu => ?_⟩⟩
   rw [cell_of_row w g _ cur e (0,0) hg]
   rw [← htake,List.getElem?_take] at hu
   split at hu
   ·rw [List.getElem?_drop] at hu
    simpa using hu
   ·cases hu
 ·exact ⟨_,_,inner,h1,Nat.le_refl _,h6.Ep (fun _ _ hp => d.BU (fun k hk => hk.1) hp),h5,fun _ => ⟨g,off,rfl,h2,h3,h4,h6,h7⟩⟩
end
theorem CV.cut {α:Type} {R:α → List Value → Prop} {size:Nat} {ps:List α} {cs:List Value} (h:CV R size ps cs) (i:Nat) (hi:i < ps.length):CV R size (ps.eraseIdx i) (cs.take (i * size) ++ cs.drop ((i + 1) * size)):=by
 have hl:=h.1
 have hm:(i + 1) * size ≤ cs.length:=by rw [hl]; exact Nat.mul_le_mul_right _ hi
 have nX:i * size ≤ cs.length:=Nat.le_trans (Nat.mul_le_mul_right _ (Nat.le_succ i)) hm
 have htl:(cs.take (i * size)).length = i * size:=by rw [List.length_take]; omega
 have he:ps.eraseIdx i = ps.take i ++ ps.drop (i + 1):=by rw [List.eraseIdx_eq_take_drop_succ]
 rw [he]
 refine ⟨?_,fun j p hj => ?_⟩
 ·rw [List.length_append,htl,List.length_drop,List.length_append,List.length_take,List.length_drop,hl,Nat.min_eq_left (by omega),Nat.add_mul i (ps.length - (i + 1)) size,Nat.sub_mul]
 ·by_cases hji:j < i
  ·rw [List.getElem?_append_left (by rw [List.length_take]; omega),List.getElem?_take_of_lt hji] at hj
   have:=h.2 j p hj
   have hjs:j * size + size ≤ i * size:=by rw [← Nat.succ_mul]; exact Nat.mul_le_mul_right _ hji
   rw [List.drop_append_of_le_length (by rw [htl]; omega),List.take_append_of_le_length (by rw [List.length_drop,htl]; omega),List.drop_take,List.take_take,Nat.min_eq_left (by omega)]
   exact this
  ·rw [List.getElem?_append_right (by rw [List.length_take]; omega),List.length_take,Nat.min_eq_left (by omega),List.getElem?_drop] at hj
   have:=h.2 (i + 1 + (j - i)) p hj
   have e1:j * size = (cs.take (i * size)).length + (j - i) * size:=by rw [htl,← Nat.add_mul]; congr 1; omega
   rw [e1,List.drop_append,List.drop_eq_nil_of_le (by omega),List.nil_append,Nat.add_sub_cancel_left,List.drop_drop]
   rw [show (i + 1) * size + (j - i) * size = (i + 1 + (j - i)) * size from (Nat.add_mul _ _ _).symm]
   exact this
section
variable {α:Type} {P:Program} {d:Kd α} {e base:Nat} {w w1:World} {ok S:Nat → Prop} {v:Value} {xs:List α}
theorem below_of_grown (h:w.grownBy w1 none):Below w.heap.size w w1:=⟨h.os,h.tape,h.output,h.size,fun k hk => h.block k hk (by simp)⟩
theorem Fg.YQ {inner:List Value} {ys:List α} {n:Nat} (hn:n = ys.length) (ho:w1.ownsRow w.heap.size e d.sz v n inner) (hg:w.grownBy w1 none) (hb:base ≤ w.heap.size) (hr:CV (d.M w base ok) d.sz ys inner) (h0:0 < n):Fg d e w1 base (fun k => ok k ∨ w.heap.size ≤ k) v ys:=by
 subst hn
 obtain ⟨g',cap',he,hgb,_⟩:=ho.form h0
 have hbl:=below_of_grown hg
 refine .inl ⟨fun k hk => ?_,inner,VE (KI ho) hb,hr.Ep (fun _ _ hp => ?_)⟩
 ·rw [he] at hk
  injection hk with hk
  exact .inr (hk ▸ hgb)
 ·refine d.BU (fun k hk => ⟨Or.inl hk.1,fun hx => ?_⟩) (Kd.KH (d.CW hp) hbl)
  have h1:=hk.2.2.1
  rw [he] at hx
  injection hx with hx
  have hx':k = g':=hx
  omega
theorem Fg.cut (t ty:TypeId) (z:Value) (bytes:Nat) (ht:P.underlying t = some (.slice e)) (hinfo:(P.info? e).map (fun i => (i.zero,i.size,i.bytes)) = some (some z,d.sz,bytes)) (hz:z.cells.size = d.sz) (hs0:0 < d.sz)
  {A:Option Addr} {c:Nat} (h:Fg d e w base ok (.slice A xs.length c) xs) (hbase:base ≤ w.heap.size) (i:Nat) (hi:i < xs.length) (hb:xs.length * bytes ≤ 140737488355328) :
  ∃ v' w',(Builtin.append_ #[t,t] ty #[.slice A i i,.slice (if c = i + 1 then A else A.map (·.add ((i + 1) * d.sz))) (xs.length - (i + 1)) (c - (i + 1))]).run P w = .ok v' w' ∧ Fg d e w' base (fun k => ok k ∨ w.heap.size ≤ k) v' (xs.eraseIdx i) ∧ Below w.heap.size w w':=by
 obtain ⟨A',c',inner,hv,hlc,hr,hmx,hA⟩:=h.reads
 injection hv with h1 h2 h3
 subst h1 h3
 obtain ⟨g,off,rfl,hg,hbg,hgl,hrg,hcell⟩:=hA (by omega)
 obtain ⟨i0,hi0,hzz⟩:=Option.map_eq_some_iff.1 hinfo
 simp only [Prod.mk.injEq] at hzz
 obtain ⟨hz0,hz1,hz2⟩:=hzz
 have hil:=hr.1
 have hle:(i + 1) * d.sz ≤ inner.length:=by rw [hil]; exact Nat.mul_le_mul_right _ hi
 have hls:(inner.take (i * d.sz)).length = i * d.sz:=by
  have:i * d.sz ≤ (i + 1) * d.sz:=Nat.mul_le_mul_right _ (Nat.le_succ i)
  rw [List.length_take]; omega
 have hlen:(xs.eraseIdx i).length = i + (xs.length - (i + 1)):=by rw [List.length_eraseIdx_of_lt hi]; omega
 by_cases hm:xs.length - (i + 1) = 0
 ·refine ⟨.slice (some ⟨g,off,none⟩) i i,w,?_,?_,Below.refl _ _⟩
  ·have:=run_append_room_cells (P:=P) (w:=w) t ty e i0 ht hi0 g off i i (if c = i + 1 then ⟨g,off,none⟩ else (⟨g,off,none⟩:Addr).add ((i + 1) * d.sz)) 0 (c - (i + 1)) [] (by simp) (fun j u hu => by simp at hu) (fun u hu => by cases hu) (by omega) (fun j hj => by simp at hj) (fun j hj => by simp at hj)
   have ea:(if c = i + 1 then some (⟨g,off,none⟩:Addr) else (some (⟨g,off,none⟩:Addr)).map (·.add ((i + 1) * d.sz))) = some (if c = i + 1 then ⟨g,off,none⟩ else (⟨g,off,none⟩:Addr).add ((i + 1) * d.sz)):=by split <;> rfl
   rw [ea,hm]
   exact this
  ·have hx:xs.length = i + 1:=by omega
   have hex:xs.eraseIdx i = xs.take i:=by rw [List.eraseIdx_eq_take_drop_succ,List.drop_of_length_le (by omega),List.append_nil]
   refine .inr ⟨g,off,inner.take (i * d.sz),by rw [hlen,hm]; rfl,.inl hg,hbg,hgl,by rw [hlen]; omega,?_,fun j u hu => ?_⟩
   ·have:=CV.cut hrg i hi
    rw [List.drop_of_length_le (l:=inner) (by rw [hil,hx]; exact Nat.le_refl _),List.append_nil] at this
    exact this.Ep (fun _ _ hp => d.BU (fun k hk => ⟨.inl hk.1,hk.2⟩) hp)
   ·rw [List.getElem?_take] at hu
    split at hu
    ·exact hcell j u hu
    ·cases hu
 ·have hc:¬ c = i + 1:=by omega
  obtain ⟨v',w',hrun,ho,hgr⟩:=run_append_arg_grows (P:=P) (w:=w) t ty e i0 z d.sz bytes ht hi0 hz0 hz1 hz2 hz hs0 ⟨g,off,none⟩ i i (inner.take (i * d.sz)) hls (fun j u hu => by
    rw [List.getElem?_take] at hu
    split at hu
    ·rw [Addr.add_lit]; exact hcell j u hu
    ·cases hu) ((⟨g,off,none⟩:Addr).add ((i + 1) * d.sz)) (xs.length - (i + 1)) (c - (i + 1)) (inner.drop ((i + 1) * d.sz)) (by rw [List.length_drop,hil,Nat.sub_mul]) (fun j u hu => by
    rw [List.getElem?_drop] at hu
    rw [Addr.add_lit,Addr.add_lit]
    have:=hcell _ u hu
    rwa [Nat.add_assoc]) (by omega) (by omega) (by
    have:(i + (xs.length - (i + 1))) * bytes ≤ xs.length * bytes:=Nat.mul_le_mul_right _ (by omega)
    omega)
  refine ⟨v',w',?_,Fg.YQ hlen.symm ho hgr hbase (CV.cut hr i hi) (by omega),below_of_grown hgr⟩
  rw [if_neg hc]
  exact hrun
theorem Fg.put {W:World} (t ty:TypeId) (z:Value) (bytes:Nat) (ht:P.underlying t = some (.slice e)) (hinfo:(P.info? e).map (fun i => (i.zero,i.size,i.bytes)) = some (some z,d.sz,bytes)) (hz:z.cells.size = d.sz) (hs0:0 < d.sz) (hb0:0 < bytes)
  (h:Fg d e W base ok v xs) (hbase:base ≤ W.heap.size) (p:α) (cs:List Value) (hp:d.M W base ok p cs) (hfree:d.Q e W base ok v xs → d.M W base (fun k => ok k ∧ some k ≠ v.ownBlock) p cs) (hl:(xs.length + 1) * bytes ≤ 140737488355328) :
  ∃ v1 w1,(Builtin.append_ #[t,t] ty #[v,.slice (some ⟨W.heap.size,0,none⟩) 1 1]).run P (W.alloc (.cells cs.toArray e)) = .ok v1 w1 ∧ Fg d e w1 base (fun k => ok k ∨ W.heap.size ≤ k) v1 (xs ++ [p]) ∧ Kept W w1 (fun k => ok k ∧ ∃ cells,W.heap[k]? = some (.cells cells e (0,0))) ∧ Below base W w1:=by
 rcases h with h | h
 ·obtain ⟨v1,w1,hrun,hq,hb,hg,_⟩:=Kd.eX (P:=P) d (w0:=W) base t ty e z bytes ht hinfo hz hs0 hb0 v xs p cs (fun k => ok k ∨ W.heap.size ≤ k) (fun k => ok k ∧ some k ≠ v.ownBlock) (hfree h) (fun k hk => ⟨.inl hk.1,hk.2⟩) (fun k hk => .inr hk) (Kd.LG h (fun _ hk => .inl hk)) (Below.refl _ _) hbase hl
  exact ⟨v1,w1,hrun,.inl hq,Kept.Gi hg (Kept.refl _ _) (fun k hk => .inl ⟨h.1 k hk,Kd.VH h k hk⟩),hb⟩
 ·have hF:Fg d e W base ok v xs:=.inr h
  obtain ⟨g,off,inner,hv,hg,hbg,hgl,hmx,hr,hcell⟩:=h
  obtain ⟨i0,hi0,hzz⟩:=Option.map_eq_some_iff.1 hinfo
  simp only [Prod.mk.injEq] at hzz
  obtain ⟨hz0,hz1,hz2⟩:=hzz
  have hcl:=d.Gw (d.Dw hp)
  have hba:Below W.heap.size W (W.alloc (.cells cs.toArray e)):=(Below.refl _ _).alloc (Nat.le_refl _) _
  have hlen:xs.length + 1 ≤ 140737488355328:=Nat.le_trans (Nat.le_mul_of_pos_right _ hb0) hl
  obtain ⟨v',w',hrun,ho,hgr⟩:=run_append_arg_grows (P:=P) (w:=W.alloc (.cells cs.toArray e)) t ty e i0 z d.sz bytes ht hi0 hz0 hz1 hz2 hz hs0 ⟨g,off,none⟩ xs.length xs.length inner hr.1 (fun j u hu => by
    rw [Addr.add_lit]
    exact cell_kept (hcell j u hu) (Kept.of_below hba (fun _ => False)) (fun h => h)) ⟨W.heap.size,0,none⟩ 1 1 cs (by rw [hcl,Nat.one_mul]) (fun j u hu => by
    rw [Addr.add_lit,Nat.zero_add,cell_of_row _ W.heap.size _ cs.toArray e (0,0) (heap_alloc_new W _)]
    simpa using hu) (by omega) (by simp only [maxLen]; omega) hl
  have hr2:CV (d.M (W.alloc (.cells cs.toArray e)) base ok) d.sz (xs ++ [p]) (inner ++ cs) :=
   CV.snoc (hr.Ep (fun _ _ hx => d.BU (fun k hk => hk.1) (Kd.KH hx hba))) (Kd.KH hp hba) hcl
  have hw:=Fg.YQ (d:=d) (e:=e) (base:=base) (ok:=ok) (v:=v') (ys:=xs ++ [p]) (n:=xs.length + 1) (by simp) ho hgr (Nat.le_trans hbase hba.size) hr2 (by omega)
  rw [hv]
  exact ⟨v',w',hrun,hw.mono (fun k hk => hk.elim .inl (fun hx => .inr (Nat.le_trans hba.size hx))),Kept.of_below (hba.trans ((below_of_grown hgr).mono hba.size)) _,(hba.trans ((below_of_grown hgr).mono hba.size)).mono hbase⟩
theorem Fg.elem (h:Fg d e w base ok v xs) (z:α) (i:Nat) (hi:i < xs.length):∃ g off c cs,v = .slice (some ⟨g,off,none⟩) xs.length c ∧ cs.length = d.sz ∧ d.M w base ok (xs.getD i z) cs ∧ ok g ∧ ∀ j u,cs[j]? = some u → w.cell? ⟨g,off + i * d.sz + j,none⟩ = some u:=by
 obtain ⟨A,c,inner,hv,hlc,hr,hmx,hA⟩:=h.reads
 obtain ⟨g,off,rfl,hg,hbg,hgl,hrg,hcell⟩:=hA (by omega)
 have hle:(i + 1) * d.sz ≤ inner.length:=by rw [hr.1]; exact Nat.mul_le_mul_right _ hi
 have hle2:i * d.sz + d.sz ≤ inner.length:=by rwa [Nat.succ_mul] at hle
 have hm:=hr.2 i _ (List.getElem?_eq_getElem hi)
 refine ⟨g,off,c,(inner.drop (i * d.sz)).take d.sz,hv,by rw [List.length_take,List.length_drop]; omega,by rw [List.getD_eq_getElem?_getD,List.getElem?_eq_getElem hi]; exact hm,hg,fun j u hu => ?_⟩
 rw [List.getElem?_take] at hu
 split at hu
 ·rw [List.getElem?_drop] at hu
  rw [Nat.add_assoc]
  exact hcell _ u hu
 ·cases hu
theorem Lt {ops:Array Oper} {o:Oper} {a:Act} {W w1:World} {Kc:Act → World → Prop} {Q':Exit → Act → World → Prop} (hw:Region.wanted o (yielded ops a.tmps) = true) (s x:Operand) (t:TypeId) (ho:o.op = .call { callee:=.builtin .append,args:=#[s,x],argTypes:=#[t,t] }) (y v1:Value)
  (hs:a.eval s = v) (hx:a.eval x = y) (hr:(Builtin.append_ #[t,t] o.type #[v,y]).run P W = .ok v1 w1) (h:Kc (a.put o.dst v1) w1):if Region.wanted o (yielded ops a.tmps) = true then Oper.wp P o a W Kc Q' else Kc (a.put o.dst undef) W:=by
 rw [if_pos hw]
 unfold Oper.wp execOp
 simp only [ho,resolve,invoke,builtin,Sem.run_bind,Sem.run_pure,Result.andThen_ok,List.map_toArray,List.map_cons,List.map_nil,hs,hx,hr]
 exact h
end
end Go.Proofs.Ytnkkgofpifhoeaa.Fg
end
section
namespace Go.Proofs.Ytnkkgofpifhoeaa.Pr
open Go.RowKit Go.Proofs.Ytnkkgofpifhoeaa.Lk Go.Proofs.Ytnkkgofpifhoeaa.Fg Go.Proofs.YtnkkgofpifhoeaaW.PrintWords
structure Ei where
 kind:Int
 AB:Int
 mine:Int
 peer:Int
 yours:Int
 body:List Int
def Fb:Kd Ei:=Kd.wI (Kd.pair (Kd.int .i64) (Kd.pair MC (Kd.pair MC (Kd.pair MC (Kd.pair MC Lk.bytes))))) (fun x => (x.kind,x.AB,x.mine,x.peer,x.yours,x.body))
def D8 (x:Ei) (b:Value):List Value:=[.int .i64 x.kind,.int .u32 x.AB,.int .u32 x.mine,.int .u32 x.peer,.int .u32 x.yours,b]
theorem jT:Fb.sz = 6:=rfl
theorem qZ:Fb.E = [5]:=rfl
theorem Jp {w:World} {base:Nat} {ok:Nat → Prop} {x:Ei} {cs:List Value}:Fb.M w base ok x cs ↔ ∃ b,cs = D8 x b ∧ (Kd.int .u8).R 5 w base ok b x.body:=by
 constructor
 ·rintro ⟨_,_,rfl,rfl,_,_,rfl,rfl,_,_,rfl,rfl,_,_,rfl,rfl,_,_,rfl,rfl,b,rfl,h⟩
  exact ⟨b,rfl,h⟩
 ·rintro ⟨b,rfl,h⟩
  exact ⟨_,_,rfl,rfl,_,_,rfl,rfl,_,_,rfl,rfl,_,_,rfl,rfl,_,_,rfl,rfl,b,rfl,h⟩
structure Fl where
 dst:Int
 AB:Int
 p:Bz
def TC:Kd Fl:=Kd.wI (Kd.pair (Kd.int .i64) (Kd.pair MC pkt)) (fun f => (f.dst,f.AB,f.p))
def FV (f:Fl) (b:Value):List Value:=.int .i64 f.dst :: .int .u32 f.AB :: cells f.p b
theorem qf:TC.E = [5]:=rfl
theorem YR {w:World} {base:Nat} {ok:Nat → Prop} {f:Fl} {cs:List Value}:TC.M w base ok f cs ↔ ∃ b,cs = FV f b ∧ (Kd.int .u8).R 5 w base ok b f.p.body:=by
 constructor
 ·rintro ⟨_,_,rfl,rfl,_,_,rfl,rfl,hp⟩
  obtain ⟨b,rfl,h⟩:=DY.1 hp
  exact ⟨b,rfl,h⟩
 ·rintro ⟨b,rfl,h⟩
  exact ⟨_,_,rfl,rfl,_,_,rfl,rfl,DY.2 ⟨b,rfl,h⟩⟩
structure Sd where
 end_:Lk
 AB:Int
 log:List Ei
 last:Ei
structure Pr where
 sd:Nat → Sd
 way:List Fl
def Pr.set (X:Pr) (s:Nat) (d:Sd):Pr:={ X with sd:=fun t => if t = s then d else X.sd t }
theorem Pr.Ae (X:Pr) (s:Nat) (d:Sd):(X.set s d).sd s = d:=if_pos rfl
theorem Pr.BP (X:Pr) {s t:Nat} (h:t ≠ s) (d:Sd):(X.set s d).sd t = X.sd t:=if_neg h
def BK (X:Pr) (ge:Nat → Nat) (lv:Nat → Value) (wv:Value):Array Value :=
 #[.pointer (some ⟨ge 0,0,none⟩),.int .u32 (X.sd 0).AB,lv 0,.int .i64 (X.sd 0).last.kind,.int .u32 (X.sd 0).last.AB,.int .u32 (X.sd 0).last.mine,.int .u32 (X.sd 0).last.peer,.int .u32 (X.sd 0).last.yours,.slice none 0 0,
  .pointer (some ⟨ge 1,0,none⟩),.int .u32 (X.sd 1).AB,lv 1,.int .i64 (X.sd 1).last.kind,.int .u32 (X.sd 1).last.AB,.int .u32 (X.sd 1).last.mine,.int .u32 (X.sd 1).last.peer,.int .u32 (X.sd 1).last.yours,.slice none 0 0,wv]
structure Dj (w:World) (B gp:Nat) (ge:Nat → Nat) (own:Nat → Nat → Prop) (X:Pr) (lv:Nat → Value) (wv:Value):Prop where
 blk:w.heap[gp]? = some (.cells (BK X ge lv wv) 143 (0,0))
 low:B ≤ gp
 Hl:∀ i,¬ own i gp
 EF:∀ i j k,own i k → own j k → i = j
 lt:∀ i k,own i k → k < w.heap.size
 e:∀ s,s < 2 → Lk.End w B (own (1 + s)) (ge s) (X.sd s).end_
 l:∀ s,s < 2 → Fb.R 67 w B (own (3 + s)) (lv s) (X.sd s).log
 way:Fg TC 150 w B (own 5) wv X.way
def grow (own:Nat → Nat → Prop) (i:Nat) (w w':World):Nat → Nat → Prop:=fun j k => own j k ∨ j = i ∧ w.heap.size ≤ k ∧ k < w'.heap.size
section
variable {w w':World} {B gp:Nat} {ge:Nat → Nat} {own:Nat → Nat → Prop} {X:Pr} {lv:Nat → Value} {wv:Value} (h:Dj w B gp ge own X lv wv)
include h
theorem Dj.hB:B ≤ w.heap.size:=Nat.le_trans h.low (Nat.le_of_lt (AQ h.blk))
theorem Dj.sub (hb:Below w.heap.size w w'):Dj w' B gp ge own X lv wv:=by
 have hk:Kept w w' (fun _ => False):=Kept.of_below hb _
 exact ⟨Ap h.blk hk (fun x => x),h.low,h.Hl,h.EF,fun i k hx => Nat.lt_of_lt_of_le (h.lt i k hx) hb.size,fun s hs => (h.e s hs).kept hk (fun _ _ x => x),fun s hs => Kd.BJ (h.l s hs) hk (fun _ _ x => x),h.way.kept hk (fun _ _ x => x)⟩
theorem JQ (i:Nat):∀ a b k,grow own i w w' a k → grow own i w w' b k → a = b:=by
 intro a b k ha hb
 rcases ha with ha | ha <;> rcases hb with hb | hb
 ·exact h.EF a b k ha hb
 ·have:=h.lt a k ha; omega
 ·have:=h.lt b k hb; omega
 ·omega
theorem MQ (i:Nat):∀ a,¬ grow own i w w' a gp:=by
 intro a ha
 have:=AQ h.blk
 rcases ha with ha | ha
 ·exact h.Hl a ha
 ·omega
theorem MR (i:Nat) (hs:w.heap.size ≤ w'.heap.size):∀ a k,grow own i w w' a k → k < w'.heap.size:=by
 intro a k ha
 rcases ha with ha | ha
 ·have:=h.lt a k ha; omega
 ·exact ha.2.2
theorem Dj.turn {s:Nat} (hs:s < 2) {L:Lk} (ht:DC w B (own (1 + s)) (ge s) L w'):Dj w' B gp ge (grow own (1 + s) w w') (X.set s { X.sd s with end_:=L }) lv wv:=by
 have hk:=ht.2.1
 have hz:=hk.1
 have hrow:BK (X.set s { X.sd s with end_:=L }) ge lv wv = BK X ge lv wv:=by
  have h0:s = 0 ∨ s = 1:=by omega
  rcases h0 with rfl | rfl <;> rfl
 refine ⟨hrow ▸ Ap h.blk hk (h.Hl _),h.low,MQ h _,JQ h _,MR h _ hz,fun t ht' => ?_,fun t ht' => ?_,(h.way.kept hk (fun k hx hy => by have:=h.EF 5 (1 + s) k hx hy; omega)).mono (fun k hx => .inl hx)⟩
 ·by_cases hts:t = s
  ·subst hts
   rw [Pr.Ae]
   exact ht.1.mono (fun k hx => hx.elim .inl (fun hn => .inr ⟨rfl,hn⟩))
  ·rw [Pr.BP X hts]
   exact ((h.e t ht').kept hk (fun k hx hy => by have:=h.EF (1 + t) (1 + s) k hx hy; omega)).mono (fun k hx => .inl hx)
 ·have:((X.set s { X.sd s with end_:=L }).sd t).log = (X.sd t).log:=by
   by_cases hts:t = s
   ·subst hts; rw [Pr.Ae]
   ·rw [Pr.BP X hts]
  rw [this]
  exact Kd.BV (Kd.BJ (h.l t ht') hk (fun k hx hy => by have:=h.EF (3 + t) (1 + s) k hx hy; omega)) (fun k hx => .inl hx)
theorem Dj.YS {w1:World} {v1:Value} {ws:List Fl} (hk:Kept w w1 (own 5)) (hw:Fg TC 150 w1 B (fun k => own 5 k ∨ w.heap.size ≤ k) v1 ws):Dj (w1.setCell ⟨gp,18,none⟩ v1) B gp ge (grow own 5 w w1) { X with way:=ws } lv v1:=by
 have hz:=hk.1
 have hg:=AQ h.blk
 have hk2:Kept w1 (w1.setCell ⟨gp,18,none⟩ v1) (fun k => k = gp):=Kept.setCell (S:=fun k => k = gp) (Kept.refl w1 _) (p:=⟨gp,18,none⟩) (.inl rfl) v1
 have hz2:(w1.setCell ⟨gp,18,none⟩ v1).heap.size = w1.heap.size:=by simp [World.setCell]
 refine ⟨Af (Ap h.blk hk (h.Hl _)) 18 v1 rfl,h.low,MQ h _,JQ h _,fun a k hx => by rw [hz2]; exact MR h 5 hz a k hx,fun t ht' => ?_,fun t ht' => ?_,?_⟩
 ·exact (((h.e t ht').kept hk (fun k hx hy => by have:=h.EF (1 + t) 5 k hx hy; omega)).kept hk2 (fun k hx hy => h.Hl _ (hy ▸ hx))).mono (fun k hx => .inl hx)
 ·exact Kd.BV (Kd.BJ (Kd.BJ (h.l t ht') hk (fun k hx hy => by have:=h.EF (3 + t) 5 k hx hy; omega)) hk2 (fun k hx hy => h.Hl _ (hy ▸ hx))) (fun k hx => .inl hx)
 ·refine (hw.bound.kept hk2 (fun k hx hy => ?_)).mono (fun k hx => hx.1.elim .inl (fun hn => .inr ⟨rfl,hn,hx.2⟩))
  subst hy
  rcases hx.1 with hx | hx
  ·exact h.Hl _ hx
  ·omega
theorem Dj.UI {s:Nat} (hs:s < 2) {w1:World} {v1:Value} {ls:List Ei} (hk:Kept w w1 (own (3 + s))) (hw:Fb.R 67 w1 B (fun k => own (3 + s) k ∨ w.heap.size ≤ k) v1 ls):Dj (w1.setCell ⟨gp,9 * s + 2,none⟩ v1) B gp ge (grow own (3 + s) w w1) (X.set s { X.sd s with log:=ls }) (fun t => if t = s then v1 else lv t) wv:=by
 have hz:=hk.1
 have hg:=AQ h.blk
 have hk2:Kept w1 (w1.setCell ⟨gp,9 * s + 2,none⟩ v1) (fun k => k = gp):=Kept.setCell (S:=fun k => k = gp) (Kept.refl w1 _) (p:=⟨gp,9 * s + 2,none⟩) (.inl rfl) v1
 have hz2:(w1.setCell ⟨gp,9 * s + 2,none⟩ v1).heap.size = w1.heap.size:=by simp [World.setCell]
 have hb1:=Ap h.blk hk (h.Hl _)
 have hrow:w1.heap[gp]? = some (.cells (BK X ge lv wv) 143 (0,0)):=hb1
 refine ⟨?_,h.low,MQ h _,JQ h _,fun a k hx => by rw [hz2]; exact MR h (3 + s) hz a k hx,fun t ht' => ?_,fun t ht' => ?_,?_⟩
 ·have h0:s = 0 ∨ s = 1:=by omega
  rcases h0 with rfl | rfl
  ·exact Af hrow 2 v1 rfl
  ·exact Af hrow 11 v1 rfl
 ·have:((X.set s { X.sd s with log:=ls }).sd t).end_ = (X.sd t).end_:=by
   by_cases hts:t = s
   ·subst hts; rw [Pr.Ae]
   ·rw [Pr.BP X hts]
  rw [this]
  exact (((h.e t ht').kept hk (fun k hx hy => by have:=h.EF (1 + t) (3 + s) k hx hy; omega)).kept hk2 (fun k hx hy => h.Hl _ (hy ▸ hx))).mono (fun k hx => .inl hx)
 ·by_cases hts:t = s
  ·subst hts
   rw [Pr.Ae]
   show Fb.R 67 _ B _ (if t = t then v1 else lv t) ls
   rw [if_pos rfl]
   refine Kd.BV (Kd.BJ (Kd.Du hw) hk2 (fun k hx hy => ?_)) (fun k hx => hx.1.elim .inl (fun hn => .inr ⟨rfl,hn,hx.2.2.1⟩))
   subst hy
   rcases hx.1 with hx | hx
   ·exact h.Hl _ hx
   ·omega
  ·rw [Pr.BP X hts]
   show Fb.R 67 _ B _ (if t = s then v1 else lv t) _
   rw [if_neg hts]
   exact Kd.BV (Kd.BJ (Kd.BJ (h.l t ht') hk (fun k hx hy => by have:=h.EF (3 + t) (3 + s) k hx hy; omega)) hk2 (fun k hx hy => h.Hl _ (hy ▸ hx))) (fun k hx => .inl hx)
 ·exact ((h.way.kept hk (fun k hx hy => by have:=h.EF 5 (3 + s) k hx hy; omega)).kept hk2 (fun k hx hy => h.Hl _ (hy ▸ hx))).mono (fun k hx => .inl hx)
end
end Go.Proofs.Ytnkkgofpifhoeaa.Pr
end
section
namespace Go.Proofs.Ytnkkgofpifhoeaa.Rf
open Go.RowKit Go.Proofs.Ytnkkgofpifhoeaa.Base Go.Proofs.Ytnkkgofpifhoeaa.Steps Go.Proofs.Ytnkkgofpifhoeaa.Lk Go.Proofs.YtnkkgofpifhoeaaW.PrintWords Go.Proofs.YtnkkgofpifhoeaaW.PrintLast
def Dc (n:Nat):Kd (List Value) where
 sz:=n
 E:=[]
 K:=fun _ x cs => cs = x ∧ x.length = n ∧ ∀ u ∈ x,u.oneCell' = true
 M:=fun _ _ _ x cs => cs = x ∧ x.length = n ∧ ∀ u ∈ x,u.oneCell' = true
 Gw:=fun h => by rw [h.1]; exact h.2.1
 Gx:=fun h u hu => h.2.2 u (h.1 ▸ hu)
 Et:=fun _ h => h
 Dw:=fun h => h
 BU:=fun _ h => h
 CW:=fun h => h
 EI:=fun _ h => h
 Eu:=fun _ h => h
def nS (S:Nat → Prop) (A:Option Addr):Prop:=∀ ad,A = some ad → ¬ S ad.block
theorem WZ {w W:World} {S:Nat → Prop} {a:Addr} {u:Value} (h:w.cell? a = some u) (hk:Kept w W S) (hS:¬ S a.block):W.cell? a = some u:=by
 have hlt:=World.block_lt_of_cell? w a h
 rw [World.cell?_of_block (w:=w) (hk.2 _ hlt hS)]
 exact h
theorem add_block (a:Addr) (i:Nat):(a.add i).block = a.block:=by unfold Addr.add; split <;> rfl
theorem YT {α:Type} {d:Kd α} {w W:World} {S:Nat → Prop} {A:Option Addr} {n:Nat} {xs:List α} (hd:∀ {x:α} {cs:List Value},d.K w x cs → d.K W x cs) (h:d.C w A n xs) (hS:0 < n → nS S A) (hk:Kept w W S):d.C W A n xs:=by
 obtain ⟨h1,h2,h3⟩:=h
 refine ⟨h1,h2,fun h0 => ?_⟩
 obtain ⟨ad,he,hc⟩:=h3 h0
 refine ⟨ad,he,fun j p hj => ?_⟩
 obtain ⟨c,c1,c2,c3⟩:=hc j p hj
 exact ⟨c,c1,hd c2,fun i u hu => WZ (c3 i u hu) hk (by rw [add_block]; exact hS h0 ad he)⟩
structure FK (α:Type) where
 sz:Nat
 At:(Nat → Prop) → World → α → List Value → Prop
 len:∀ {S w x cs},At S w x cs → cs.length = sz
 one:∀ {S w x cs},At S w x cs → ∀ u ∈ cs,u.oneCell' = true
 keep:∀ {S:Nat → Prop} {w W:World} {x:α} {cs:List Value},At S w x cs → Kept w W S → At S W x cs
 up:∀ {S S':Nat → Prop} {w:World} {x cs},(∀ k,S' k → S k ∨ w.heap.size ≤ k) → At S w x cs → At S' w x cs
def FK.L {α:Type} (d:FK α) (S:Nat → Prop) (w:World) (A:Option Addr) (n:Nat) (xs:List α):Prop :=
 ∃ rows:List (List Value),(Dc d.sz).C w A n rows ∧ (0 < n → nS S A) ∧ rows.length = xs.length ∧ ∀ (i:Nat) (x:α) (r:List Value),xs[i]? = some x → rows[i]? = some r → d.At S w x r
theorem FK.L.keep {α:Type} {d:FK α} {S:Nat → Prop} {w W:World} {A:Option Addr} {n:Nat} {xs:List α} (h:d.L S w A n xs) (hk:Kept w W S):d.L S W A n xs:=by
 obtain ⟨rows,h1,h2,h3,h4⟩:=h
 exact ⟨rows,YT (w:=w) (W:=W) (fun h => h) h1 h2 hk,h2,h3,fun i x r hx hr => d.keep (h4 i x r hx hr) hk⟩
theorem FK.L.below {α:Type} {d:FK α} {S:Nat → Prop} {w W:World} {A:Option Addr} {n:Nat} {xs:List α} (h:d.L S w A n xs) (hb:Below w.heap.size w W):d.L S W A n xs:=h.keep (Kept.of_below hb _)
theorem fC {α:Type} {d:Kd α} {S S':Nat → Prop} {w:World} {A:Option Addr} {n:Nat} {xs:List α} (hsz:0 < d.sz) (hs:∀ k,S' k → S k ∨ w.heap.size ≤ k) (hC:d.C w A n xs) (h:0 < n → nS S A):0 < n → nS S' A:=fun h0 ad he hx => by
 rcases hs _ hx with h1 | h1
 ·exact h h0 ad he h1
 ·obtain ⟨ad',he',hc⟩:=hC.2.2 h0
  rw [he] at he'
  have e:ad = ad':=Option.some.inj he'
  subst e
  have hl:0 < xs.length:=by have:=hC.1; omega
  obtain ⟨c,c1,_,c3⟩:=hc 0 _ (List.getElem?_eq_getElem hl)
  have hu:=List.getElem?_eq_getElem (show 0 < c.length by omega)
  have:=World.block_lt_of_cell? w _ (c3 0 _ hu)
  rw [add_block] at this
  omega
theorem FK.L.up {α:Type} {d:FK α} {S S':Nat → Prop} {w:World} {A:Option Addr} {n:Nat} {xs:List α} (hsz:0 < d.sz) (hs:∀ k,S' k → S k ∨ w.heap.size ≤ k) (h:d.L S w A n xs):d.L S' w A n xs:=by
 obtain ⟨rows,h1,h2,h3,h4⟩:=h
 exact ⟨rows,h1,fC (d:=Dc d.sz) hsz hs h1 h2,h3,fun i x r hx hr => d.up hs (h4 i x r hx hr)⟩
theorem FK.L.nil {α:Type} (d:FK α) (S:Nat → Prop) (w:World) (A:Option Addr):d.L S w A 0 []:=⟨[],⟨rfl,by decide,fun h => absurd h (by decide)⟩,fun h => absurd h (by decide),rfl,fun i x r hx => by cases hx⟩
theorem FK.L.len {α:Type} {d:FK α} {S:Nat → Prop} {w:World} {A:Option Addr} {n:Nat} {xs:List α} (h:d.L S w A n xs):n = xs.length:=by
 obtain ⟨rows,h1,_,h3,_⟩:=h
 rw [← h3]; exact h1.1.symm
theorem FK.L.elem {α:Type} {d:FK α} {S:Nat → Prop} {w:World} {A:Option Addr} {n:Nat} {xs:List α} (h:d.L S w A n xs) (i:Nat) (hi:i < n) (z:α):∃ ad r,A = some ad ∧ ¬ S ad.block ∧ d.At S w (xs.getD i z) r ∧ ∀ j u,r[j]? = some u → w.cell? (ad.add (i * d.sz + j)) = some u:=by
 have hl:=h.len
 obtain ⟨rows,h1,h2,h3,h4⟩:=h
 obtain ⟨ad,he,hc⟩:=h1.2.2 (by omega)
 have hr:=List.getElem?_eq_getElem (show i < rows.length by omega)
 have hx:=List.getElem?_eq_getElem (show i < xs.length by omega)
 obtain ⟨c,c1,c2,c3⟩:=hc i _ hr
 refine ⟨ad,rows[i]'(by omega),he,h2 (by omega) ad he,?_,fun j u hu => c3 j u (by rw [c2.1]; exact hu)⟩
 rw [List.getD_eq_getElem?_getD,hx]
 exact h4 i _ _ hx hr
theorem FK.L.snoc {α:Type} {d:FK α} {S:Nat → Prop} {w W:World} {xs:List α} {rows:List (List Value)} {x:α} {r:List Value} {A:Option Addr} (hl:rows.length = xs.length) (hK:∀ (i:Nat) (x:α) (r:List Value),xs[i]? = some x → rows[i]? = some r → d.At S w x r) (hk:Kept w W S) (hx:d.At S W x r)
  (hC:(Dc d.sz).C W A (rows ++ [r]).length (rows ++ [r])) (hA:nS S A):d.L S W A (xs ++ [x]).length (xs ++ [x]):=by
 refine ⟨rows ++ [r],by rw [show (xs ++ [x]).length = (rows ++ [r]).length by simp [hl]]; exact hC,fun _ => hA,by simp [hl],fun i y s hy hs => ?_⟩
 by_cases hi:i < xs.length
 ·rw [List.getElem?_append_left hi] at hy
  rw [List.getElem?_append_left (by omega)] at hs
  exact d.keep (hK i y s hy hs) hk
 ·rw [List.getElem?_append_right (by omega)] at hy hs
  by_cases he:i = xs.length
  ·subst he
   rw [Nat.sub_self] at hy
   rw [hl,Nat.sub_self] at hs
   have hy':x = y:=Option.some.inj hy
   have hs':r = s:=Option.some.inj hs
   subst hy' hs'
   exact hx
  ·rw [List.getElem?_eq_none (by simp; omega)] at hy; cases hy
def Gl (S:Nat → Prop) (w:World) (A:Option Addr) (xs:List Int):Prop:=(Kd.int .u8).C w A xs.length xs ∧ (0 < xs.length → nS S A)
theorem Gl.keep {S:Nat → Prop} {w W:World} {A:Option Addr} {xs:List Int} (h:Gl S w A xs) (hk:Kept w W S):Gl S W A xs:=⟨YT (w:=w) (W:=W) (fun h => h) h.1 h.2 hk,h.2⟩
theorem Gl.below {S:Nat → Prop} {w W:World} {A:Option Addr} {xs:List Int} (h:Gl S w A xs) (hb:Below w.heap.size w W):Gl S W A xs:=h.keep (Kept.of_below hb _)
theorem Gl.up {S S':Nat → Prop} {w:World} {A:Option Addr} {xs:List Int} (hs:∀ k,S' k → S k ∨ w.heap.size ≤ k) (h:Gl S w A xs):Gl S' w A xs:=⟨h.1,fC (d:=Kd.int .u8) (by decide) hs h.1 h.2⟩
theorem Gl.nil (S:Nat → Prop) (w:World):Gl S w none []:=⟨⟨rfl,by decide,fun h => absurd h (by decide)⟩,fun h => absurd h (by decide)⟩
def YU:FK (List Int) where
 sz:=1
 At:=fun S w x cs => ∃ A c,cs = [.slice A x.length c] ∧ x.length ≤ c ∧ Gl S w A x
 len:=fun ⟨_,_,h,_⟩ => by rw [h]; rfl
 one:=fun ⟨_,_,h,_⟩ u hu => by rw [h] at hu; rw [List.mem_singleton.1 hu]; rfl
 keep:=fun ⟨A,c,h,hl,hb⟩ hk => ⟨A,c,h,hl,hb.keep hk⟩
 up:=fun hs ⟨A,c,h,hl,hb⟩ => ⟨A,c,h,hl,hb.up hs⟩
def qg:FK Bz where
 sz:=10
 At:=fun S w p cs => ∃ A c,cs = cells p (.slice A p.body.length c) ∧ p.body.length ≤ c ∧ Gl S w A p.body
 len:=fun ⟨_,_,h,_⟩ => by rw [h]; rfl
 one:=fun ⟨_,_,h,_⟩ u hu => by rw [h] at hu; unfold cells at hu; simp at hu; rcases hu with h | h | h | h | h | h | h | h | h | h <;> subst h <;> rfl
 keep:=fun ⟨A,c,h,hl,hb⟩ hk => ⟨A,c,h,hl,hb.keep hk⟩
 up:=fun hs ⟨A,c,h,hl,hb⟩ => ⟨A,c,h,hl,hb.up hs⟩
def qh:FK Pr.Ei where
 sz:=6
 At:=fun S w x cs => ∃ A c,cs = Pr.D8 x (.slice A x.body.length c) ∧ x.body.length ≤ c ∧ Gl S w A x.body
 len:=fun ⟨_,_,h,_⟩ => by rw [h]; rfl
 one:=fun ⟨_,_,h,_⟩ u hu => by rw [h] at hu; unfold Pr.D8 at hu; simp at hu; rcases hu with h | h | h | h | h | h <;> subst h <;> rfl
 keep:=fun ⟨A,c,h,hl,hb⟩ hk => ⟨A,c,h,hl,hb.keep hk⟩
 up:=fun hs ⟨A,c,h,hl,hb⟩ => ⟨A,c,h,hl,hb.up hs⟩
def aB:FK Pr.Fl where
 sz:=12
 At:=fun S w f cs => ∃ A c,cs = Pr.FV f (.slice A f.p.body.length c) ∧ f.p.body.length ≤ c ∧ Gl S w A f.p.body
 len:=fun ⟨_,_,h,_⟩ => by rw [h]; rfl
 one:=fun ⟨_,_,h,_⟩ u hu => by rw [h] at hu; unfold Pr.FV cells at hu; simp at hu; rcases hu with h | h | h | h | h | h | h | h | h | h | h | h <;> subst h <;> rfl
 keep:=fun ⟨A,c,h,hl,hb⟩ hk => ⟨A,c,h,hl,hb.keep hk⟩
 up:=fun hs ⟨A,c,h,hl,hb⟩ => ⟨A,c,h,hl,hb.up hs⟩
theorem eval_put {a:Act} {N M:Tmp} (v:Value) (h:N ≠ M):(a.put (some N) v).eval (.tmp M) = a.eval (.tmp M):=by
 show (a.tmps.setIfInBounds N v).getD M undef = a.tmps.getD M undef
 rw [Array.getD_eq_getD_getElem?,Array.getD_eq_getD_getElem?,Array.getElem?_setIfInBounds_ne h]
theorem LK {a:Act} {N:Tmp} (v:Value) (h:N < a.tmps.size):(a.put (some N) v).eval (.tmp N) = v:=by
 show (a.tmps.setIfInBounds N v).getD N undef = v
 rw [Array.getD_eq_getD_getElem?,Array.getElem?_setIfInBounds_self_of_lt h]; rfl
theorem YV (a:Act) (N:Tmp) (v:Value):(a.put (some N) v).tmps.size = a.tmps.size:=by
 show (a.tmps.setIfInBounds N v).size = _
 simp
theorem put_comm {a:Act} {N M:Tmp} (u v:Value) (h:N ≠ M):(a.put (some N) u).put (some M) v = (a.put (some M) v).put (some N) u:=by
 show ({ a with tmps:=(a.tmps.setIfInBounds N u).setIfInBounds M v }:Act) = { a with tmps:=(a.tmps.setIfInBounds M v).setIfInBounds N u }
 rw [Array.setIfInBounds_comm _ _ h]
section
variable {P:Program} {ops:Array Oper} {md:Region.Mode} {Q:Exit → Act → World → Prop} {S:World → Prop} {ds:List Nat}
theorem row_step {oi:Oper} {a:Act} {w:World} {K:Act → World → Prop} (hw:Region.wanted oi (yielded ops a.tmps) = true) (hN:oi.dst = none) (ty:TypeId) (x y:Operand) (ho:oi.op = .store ty x y) (g:Nat) (cells:Array Value) (hx:a.eval x = .pointer (some ⟨g,0,none⟩)) (hy:a.eval y = .agg cells)
  (t:TypeId) (old:Array Value) (hg:w.heap[g]? = some (.cells old t (0,0))) (hi:(P.info? ty).map (·.size) = some cells.size) (hold:old.size = cells.size) (h1:cells.all (·.oneCell') = true)
  (k:∀ w1,w1.heap[g]? = some (.cells cells t (0,0)) → Steps.At g w w1 → K a w1):if Region.wanted oi (yielded ops a.tmps) = true then Oper.wp P oi a w K Q else K (a.put none undef) w:=by
 rw [if_pos hw]
 refine wp_store_row ty x y ho g cells hx hy t old hg hi hold h1 ?_
 rw [hN]
 exact k _ (NM hg) (Ol g w cells)
def chainB (md:Region.Mode) (ops:Array Oper) (l lE lY qi ng lJ:Array Bool) (iE iC iY:Nat):Bool :=
 (Region.ready md ops l == [iE,iY]) && (l.setIfInBounds iE true == lE) && (l.setIfInBounds iY true == lY) && (Region.ready md ops lE == [iC,iY]) && (lE.setIfInBounds iC true == qi) && (lE.setIfInBounds iY true == ng) &&
 (Region.ready md ops qi == [iY]) && (qi.setIfInBounds iY true == lJ) && (Region.ready md ops ng == [iC]) && (ng.setIfInBounds iC true == lJ) && (Region.ready md ops lY == [iE]) && (lY.setIfInBounds iE true == ng)
theorem Px {iE iC iY NE NC NY NS NV:Nat} {oE oC oY:Oper} {fuel:Nat} {l:Array Bool} {a:Act} {w:World} (lE lY qi ng lJ:Array Bool) (n t e:Nat) (z:Value) (bytes:Nat)
  (hiE:ops[iE]? = some oE) (yl:ops[iC]? = some oC) (yt:ops[iY]? = some oY) (qj:oE.dst = some NE) (ql:oC.dst = some NC) (wM:oY.dst = some NY)
  (hc:chainB md ops l lE lY qi ng lJ iE iC iY = true) (hdE:iE ∉ ds) (yu:iC ∉ ds) (yw:iY ∉ ds)
  (hwE:∀ y,Region.wanted oE y = true) (hwC:∀ y,Region.wanted oC y = true) (hwY:∀ y,Region.wanted oY y = true)
  (hoC:oC.op = .call { callee:=.builtin .append,args:=#[.tmp NE,.tmp NS],argTypes:=#[t,t] })
  (ht:P.underlying t = some (.slice e)) (hinfo:(P.info? e).map (fun i => (i.zero,i.size,i.bytes)) = some (some z,n,bytes)) (hz:z.cells.size = n) (hs0:0 < n) (hb0:0 < bytes)
  (hne:(NE ≠ NC ∧ NE ≠ NY ∧ NE ≠ NS ∧ NE ≠ NV ∧ NC ≠ NY) ∧ NC ≠ NS ∧ NC ≠ NV ∧ NY ≠ NS) (hsz:NE < a.tmps.size)
  (hrE:∀ (a':Act) (W:World),(execOp a'.eval oE).run P W = .ok (.value (.slice (some ⟨W.heap.size,0,none⟩) 0 0)) (W.alloc (.cells #[] e)))
  (yv:Value) (row:List Value) (hrow:row.length = n) (hone:∀ u ∈ row,u.oneCell' = true) (hyv:a.eval (.tmp NV) = yv)
  (hrY:∀ (a':Act) (W:World),a'.eval (.tmp NV) = yv → (execOp a'.eval oY).run P W = .ok (.value (.slice (some ⟨W.heap.size,0,none⟩) 1 1)) (W.alloc (.cells row.toArray e)))
  (A:Option Addr) (m c:Nat) (rows:List (List Value)) (hsrc:a.eval (.tmp NS) = .slice A m c) (hC:(Dc n).C w A m rows) (hl:m * bytes ≤ 140737488355328)
  (hS:∀ w',Below w.heap.size w w' → S w')
  (h:∀ vE vC AY w',(Dc n).R e w' w.heap.size (fun k => w.heap.size ≤ k) vC rows → (Dc n).C w' AY 1 [row] → Below w.heap.size w w' → S w' → Ah P md ops Q S ds fuel lJ (((a.put (some NE) vE).put (some NC) vC).put (some NY) (.slice AY 1 1)) w') :
  Ah P md ops Q S ds (fuel + 1 + 1 + 1) l a w:=by
 simp only [chainB,Bool.and_eq_true,beq_iff_eq] at hc
 obtain ⟨⟨⟨⟨⟨⟨⟨⟨⟨⟨⟨c1,c2⟩,c3⟩,c4⟩,c5⟩,c6⟩,c7⟩,c8⟩,c9⟩,c10⟩,c11⟩,c12⟩:=hc
 obtain ⟨⟨n1,n2,n3,n4,n5⟩,n6,n7,n8⟩:=hne
 have hm:m = rows.length:=hC.1.symm
 have stE:∀ (a':Act) (W:World),Below w.heap.size w W → ∀ K:Act → World → Prop,(∀ v1 w1,(Dc n).R e w1 w.heap.size (fun k => w.heap.size ≤ k) v1 [] → (∃ b,v1.ownBlock = some b ∧ W.heap.size ≤ b) → Below w.heap.size w w1 → Below W.heap.size W w1 → K (a'.put (some NE) v1) w1) → if Region.wanted oE (yielded ops a'.tmps) = true then Oper.wp P oE a' W K Q else K (a'.put (some NE) undef) W:=fun a' W hb K hK => by
  have:=Kd.Ju (P:=P) (ops:=ops) (o:=oE) (a:=a') (Q:=Q) (Kc:=K) (Dc n) (w0:=w) (W:=W) w.heap.size e (hwE _) (N:=NE) qj (xs:=[]) (inner:=[]) (ok:=fun k => w.heap.size ≤ k) (CY:=fun _ => False) (hrE a' W) (CV.none _ _) (fun _ hf => hf.elim) hb.size hb hb.size (by decide) (fun v1 w1 h1 h2 h3 h4 => by rw [qj]; exact hK v1 w1 h1 h4 h2 ⟨h3.os,h3.tape,h3.output,h3.size,fun k hk => h3.block k hk (by simp)⟩)
  rwa [qj] at this
 have yx:∀ (a':Act) (W:World),a'.eval (.tmp NV) = yv → Below w.heap.size w W → ∀ K:Act → World → Prop,(∀ AY w1,(Dc n).C w1 AY 1 [row] → (∃ g,AY = some ⟨g,0,none⟩ ∧ g = W.heap.size ∧ w1.heap[g]? = some (.cells row.toArray e (0,0))) → Below w.heap.size w w1 → Below W.heap.size W w1 → K (a'.put (some NY) (.slice AY 1 1)) w1) → if Region.wanted oY (yielded ops a'.tmps) = true then Oper.wp P oY a' W K Q else K (a'.put (some NY) undef) W:=fun a' W hv hb K hK => by
  refine Es (hwY _) wM (hrY a' W hv) (hK _ _ ?_ ⟨_,rfl,rfl,PU W _⟩ (hb.alloc hb.size _) ((Below.refl _ _).alloc (Nat.le_refl _) _))
  refine ⟨rfl,by decide,fun _ => ⟨_,rfl,fun j p hj => ?_⟩⟩
  have hj0:j = 0:=by
   by_cases h:j = 0
   ·exact h
   ·rw [List.getElem?_eq_none (by simp; omega)] at hj; cases hj
  subst hj0
  have hp:row = p:=Option.some.inj hj
  subst hp
  refine ⟨row,hrow,⟨rfl,hrow,hone⟩,fun i u hu => ?_⟩
  have:=AA (PU W (.cells row.toArray e (0,0)):(W.alloc (.cells row.toArray e)).heap[W.heap.size]? = some (.cells row.toArray e (0,0))) i
  rw [show ((⟨W.heap.size,0,none⟩:Addr).add (0 * (Dc n).sz + i)) = ⟨W.heap.size,i,none⟩ by rw [Nat.zero_mul,Nat.zero_add]; exact add_plain _ _]
  rw [this]
  simpa using hu
 have yz:∀ (a':Act) (W:World) (vE:Value),a'.eval (.tmp NE) = vE → a'.eval (.tmp NS) = .slice A m c → Below w.heap.size w W → (Dc n).R e W w.heap.size (fun k => w.heap.size ≤ k) vE [] → ∀ K:Act → World → Prop,(∀ v1 w1,(Dc n).R e w1 w.heap.size (fun k => w.heap.size ≤ k) v1 rows → Below w.heap.size w w1 → W.grownBy w1 vE.ownBlock → K (a'.put (some NC) v1) w1) → if Region.wanted oC (yielded ops a'.tmps) = true then Oper.wp P oC a' W K Q else K (a'.put (some NC) undef) W:=fun a' W vE he hs hb hR K hK => by
  have:=Kd.BO (P:=P) (ops:=ops) (o:=oC) (a:=a') (Q:=Q) (Kc:=K) (Dc n) (Rr:=fun x cs => cs = x ∧ x.length = n ∧ ∀ u ∈ x,u.oneCell' = true) (w0:=w) (W:=W) w.heap.size (hwC _) (.tmp NE) (.tmp NS) t e z bytes hoC ht hinfo hz hs0 hb0 vE [] rows A m c (fun k => w.heap.size ≤ k) (fun _ => False) he hs hR (Kd.Cm hC hb) (fun _ _ hx => hx) (fun _ hf => hf.elim) (fun k hk => Nat.le_trans hb.size hk) hb hb.size (by simpa using hl) (fun v1 w1 h1 h2 h3 _ => by rw [ql]; exact hK v1 w1 h1 h2 h3)
  rwa [ql] at this
 have fD:∀ {W w1:World} {AY:Option Addr} {g:Nat} {vE:Value},AY = some ⟨g,0,none⟩ → W.heap[g]? = some (.cells row.toArray e (0,0)) → W.grownBy w1 vE.ownBlock → (∀ k,vE.ownBlock = some k → g ≠ k) → (Dc n).C w1 AY 1 [row]:=fun {W w1 AY g vE} hA hb hg hne => by
  subst hA
  have hlt:=AQ hb
  have hb1:w1.heap[g]? = some (.cells row.toArray e (0,0)):=(hg.block g hlt (fun he => hne g he.symm rfl)).trans hb
  refine ⟨rfl,by decide,fun _ => ⟨_,rfl,fun j p hj => ?_⟩⟩
  have hj0:j = 0:=by
   by_cases h:j = 0
   ·exact h
   ·rw [List.getElem?_eq_none (by simp; omega)] at hj; cases hj
  subst hj0
  have hp:row = p:=Option.some.inj hj
  subst hp
  refine ⟨row,hrow,⟨rfl,hrow,hone⟩,fun i u hu => ?_⟩
  rw [show ((⟨g,0,none⟩:Addr).add (0 * (Dc n).sz + i)) = ⟨g,i,none⟩ by rw [Nat.zero_mul,Nat.zero_add]; exact add_plain _ _,AA hb1 i]
  simpa using hu
 have hw0:Below w.heap.size w w:=Below.refl _ _
 subst c2 c3 c5 c6 c8
 refine OY (fuel:=fuel + 1 + 1) (i:=iE) (j:=iY) (Ni:=some NE) (Nj:=some NY) (l.setIfInBounds iE true) (l.setIfInBounds iY true) hiE yt qj wM (by rw [c1]; simp) hdE yw (fun K hK => ?_) (fun K hK => ?_)
 ·refine stE a w hw0 K (fun vE w1 fE y5 hB1 _ => hK.out _ _ (hS _ hB1) (fun _ => ?_))
  clear hK K
  obtain ⟨b,hb1,hb2⟩:=y5
  refine OY (fuel:=fuel + 1) (i:=iC) (j:=iY) (Ni:=some NC) (Nj:=some NY) ((l.setIfInBounds iE true).setIfInBounds iC true) ((l.setIfInBounds iE true).setIfInBounds iY true) yl yt ql wM (by rw [c4]; simp) yu yw (fun K hK => ?_) (fun K hK => ?_)
  ·refine yz _ w1 vE (LK _ hsz) ((eval_put _ n3).trans hsrc) hB1 fE K (fun vC w2 RH hB2 _ => hK.out _ _ (hS _ hB2) (fun _ => ?_))
   clear hK K
   refine Xc (fuel:=fuel) (i:=iY) (N:=some NY) (((l.setIfInBounds iE true).setIfInBounds iC true).setIfInBounds iY true) yt wM (by unfold G9; rw [c7]; simp) yw (fun K hK => ?_)
   refine yx _ w2 ((eval_put _ n7).trans ((eval_put _ n4).trans hyv)) hB2 K (fun AY w3 UJ _ hB3 y7 => hK.out _ _ (hS _ hB3) (fun hs3 => ?_))
   exact h _ _ _ _ (Kd.Ee RH y7) UJ hB3 hs3
  ·refine yx _ w1 ((eval_put _ n4).trans hyv) hB1 K (fun AY w2 UJ hgY hB2 jU => hK.out _ _ (hS _ hB2) (fun _ => ?_))
   clear hK K
   obtain ⟨g,hg1,hg2,hg3⟩:=hgY
   refine Xc (fuel:=fuel) (i:=iC) (N:=some NC) (((l.setIfInBounds iE true).setIfInBounds iC true).setIfInBounds iY true) yl ql (by unfold G9; rw [c9,c10]; simp) yu (fun K hK => ?_)
   refine yz _ w2 vE ((eval_put _ (Ne.symm n2)).trans (LK _ hsz)) ((eval_put _ n8).trans ((eval_put _ n3).trans hsrc)) hB2 (Kd.Ee fE jU) K (fun vC w3 RH hB3 hgr => hK.out _ _ (hS _ hB3) (fun hs3 => ?_))
   rw [put_comm _ _ (Ne.symm n5)]
   refine h _ _ _ _ RH (fD hg1 hg3 hgr (fun k hk => ?_)) hB3 hs3
   rw [hb1] at hk
   have hkb:b = k:=Option.some.inj hk
   have:=(Kd.Du fE).1 k (by rw [hb1,hkb])
   omega
 ·refine yx a w hyv hw0 K (fun AY w1 UJ hgY hB1 _ => hK.out _ _ (hS _ hB1) (fun _ => ?_))
  clear hK K
  obtain ⟨g,hg1,hg2,hg3⟩:=hgY
  refine Xc (fuel:=fuel + 1) (i:=iE) (N:=some NE) ((l.setIfInBounds iE true).setIfInBounds iY true) hiE qj (by unfold G9; rw [c11,c12]; simp) hdE (fun K hK => ?_)
  refine stE _ w1 hB1 K (fun vE w2 fE y5 hB2 jU => hK.out _ _ (hS _ hB2) (fun _ => ?_))
  clear hK K
  obtain ⟨b,hb1,hb2⟩:=y5
  refine Xc (fuel:=fuel) (i:=iC) (N:=some NC) (((l.setIfInBounds iE true).setIfInBounds iC true).setIfInBounds iY true) yl ql (by unfold G9; rw [c9,c10]; simp) yu (fun K hK => ?_)
  refine yz _ w2 vE (LK _ (by rw [YV]; exact hsz)) ((eval_put _ n3).trans ((eval_put _ n8).trans hsrc)) hB2 fE K (fun vC w3 RH hB3 hgr => hK.out _ _ (hS _ hB3) (fun hs3 => ?_))
  rw [put_comm (a:=a) _ _ (Ne.symm n2),put_comm _ _ (Ne.symm n5)]
  refine h _ _ _ _ RH (fD hg1 (W:=w2) ((jU.block g (AQ hg3)).trans hg3) hgr (fun k hk => ?_)) hB3 hs3
  rw [hb1] at hk
  have hkb:b = k:=Option.some.inj hk
  have:=AQ hg3
  omega
end
def ev (L:Lk) (nx:Int) (q o:Value):Array Value:=#[.int .u32 L.own,.int .i64 L.phase,.int .u32 L.token,.int .u32 L.AB,.int .u32 L.yours,.bool L.known,q,.int .i64 L.sent,.int .u32 nx,.int .u32 L.expected,.int .i64 L.idle,o]
theorem jV (w:World) (a b c:Obj):Below w.heap.size w (((w.alloc a).alloc b).alloc c):=by
 refine ((((Below.refl w.heap.size w).alloc (Nat.le_refl _) a).alloc ?_ b)).alloc ?_ c
 ·simp
 ·simp; omega
theorem fF (w:World) (a b c:Obj):(((w.alloc a).alloc b).alloc c).heap[w.heap.size]? = some a :=
 (((Below.refl _ _).alloc (Nat.le_refl ((w.alloc a).alloc b).heap.size) c).block _ (by simp; omega)).trans ((((Below.refl _ _).alloc (Nat.le_refl (w.alloc a).heap.size) b).block _ (by simp)).trans (heap_alloc_new w a))
theorem YW (w:World) (a b c:Obj):(((w.alloc a).alloc b).alloc c).heap[w.heap.size + 1]? = some b:=by
 have h:=heap_alloc_new (w.alloc a) b
 have e:(w.alloc a).heap.size = w.heap.size + 1:=by simp
 rw [e] at h
 exact (((Below.refl _ _).alloc (Nat.le_refl ((w.alloc a).alloc b).heap.size) c).block _ (by simp)).trans h
theorem fG (w:World) (a b c:Obj):(((w.alloc a).alloc b).alloc c).heap[w.heap.size + 2]? = some c:=by
 have h:=heap_alloc_new ((w.alloc a).alloc b) c
 have e:((w.alloc a).alloc b).heap.size = w.heap.size + 2:=by simp
 rw [e] at h
 exact h
def YX (S:Nat → Prop) (w:World) (L:Lk) (nx:Int) (q:Value) (L':Lk) (e:Ending) (w':World):Prop:=∃ Ao co,e = .returned (.agg (ev L' nx q (.slice Ao L'.out.length co))) ∧ qg.L S w' Ao L'.out.length L'.out ∧ Below w.heap.size w w'
theorem We {L:Lk} (h:¬ L.out.length < 1024) (p:Bz):emit_ L p = L:=if_neg h
theorem YY {S:Nat → Prop} {w:World} (hS:∀ k,S k → k < w.heap.size) {L:Lk} {nx:Int} {Aq:Option Addr} {nq cq:Nat} {Ao:Option Addr} {co:Nat} (hO:qg.L S w Ao L.out.length L.out) (p:Bz) {Ab:Option Addr} {cb:Nat} (hB:Gl S w Ab p.body) (hcb:p.body.length ≤ cb) :
  Calls Try.prog 130 #[.agg (ev L nx (.slice Aq nq cq) (.slice Ao L.out.length co)),.agg (cells p (.slice Ab p.body.length cb)).toArray] w (YX S w L nx (.slice Aq nq cq) (emit_ L p)):=by
 by_cases hfull:L.out.length < 1024
 rotate_left
 ·rw [We hfull]
  clear hS
  unfold YX ev cells
  simp only [List.toArray]
  have HO:=Lib.hid hO
  clear hO hB
  generalize hno:L.out.length = no at *
  have hd:decide ((no:Int) < 1024) = false:=by simp; omega
  have Df:=Try.underlying78
  generalize p.body.length = nb at *
  go_enter Try.func130,Try.ntmps130
  go_wp2
  all_goals (go_returns; refine ⟨Ao,co,rfl,?_,?_⟩)
  ·exact HO.out.below (jV _ _ _ _)
  ·exact jV _ _ _ _
 obtain ⟨rows,hR,hRS,hrl,hrK⟩:=hO
 have HR:=Lib.hid (show (Dc 10).C w Ao L.out.length rows from hR)
 have HRK:=Lib.hid hrK
 have bD:=Lib.hid hrl
 have HS:=Lib.hid hS
 have HB:=Lib.hid hB
 have V9:=Lib.hid hcb
 have hem:emit_ L p = { L with out:=L.out ++ [p] }:=if_pos hfull
 have HEM:=Lib.hid hem
 clear hS hB hcb hR hRS hrl hrK hem
 unfold cells
 generalize hno:L.out.length = no at *
 generalize hnb:p.body.length = nb at *
 show Calls Try.prog 130 #[.agg #[.int .u32 L.own,.int .i64 L.phase,.int .u32 L.token,.int .u32 L.AB,.int .u32 L.yours,.bool L.known,.slice Aq nq cq,.int .i64 L.sent,.int .u32 nx,.int .u32 L.expected,.int .i64 L.idle,.slice Ao no co],.agg #[.int .i64 p.kind,.int .u32 p.mine,.int .u32 p.AB,.int .u32 p.yours,.int .u32 p.seq,.int .u32 p.AV,.int .u32 p.stamp,.int .u32 p.echo,.complex .f64 p.zr p.zi,.slice Ab nb cb]] w _
 have KD:=Lib.hid hno
 have Ez:=Lib.hid hnb
 have hd:decide ((no:Int) < 1024) = true:=by simp; omega
 have Df:=Try.underlying78
 have CP:=Try.underlying27
 clear hno hnb
 go_enter Try.func130,Try.ntmps130
 go_wp2_with fail
 have hb0:=AZ (jV w (.cells #[.int .u32 L.own,.int .i64 L.phase,.int .u32 L.token,.int .u32 L.AB,.int .u32 L.yours,.bool L.known,.slice Aq nq cq,.int .i64 L.sent,.int .u32 nx,.int .u32 L.expected,.int .i64 L.idle,.slice Ao no co] 78) (.cells #[.int .i64 p.kind,.int .u32 p.mine,.int .u32 p.AB,.int .u32 p.yours,.int .u32 p.seq,.int .u32 p.AV,.int .u32 p.stamp,.int .u32 p.echo,.complex .f64 p.zr p.zi,.slice Ab nb cb] 27) (.cells #[.int .u32 0,.int .i64 0,.int .u32 0,.int .u32 0,.int .u32 0,.bool false,.slice none 0 0,.int .i64 0,.int .u32 0,.int .u32 0,.int .i64 0,.slice none 0 0] 78))
 have hSS:(((w.alloc (.cells #[.int .u32 L.own,.int .i64 L.phase,.int .u32 L.token,.int .u32 L.AB,.int .u32 L.yours,.bool L.known,.slice Aq nq cq,.int .i64 L.sent,.int .u32 nx,.int .u32 L.expected,.int .i64 L.idle,.slice Ao no co] 78)).alloc (.cells #[.int .i64 p.kind,.int .u32 p.mine,.int .u32 p.AB,.int .u32 p.yours,.int .u32 p.seq,.int .u32 p.AV,.int .u32 p.stamp,.int .u32 p.echo,.complex .f64 p.zr p.zi,.slice Ab nb cb] 27)).alloc (.cells #[.int .u32 0,.int .i64 0,.int .u32 0,.int .u32 0,.int .u32 0,.bool false,.slice none 0 0,.int .i64 0,.int .u32 0,.int .u32 0,.int .i64 0,.slice none 0 0] 78)).drew.heap[w.heap.size]? = some (.cells #[.int .u32 L.own,.int .i64 L.phase,.int .u32 L.token,.int .u32 L.AB,.int .u32 L.yours,.bool L.known,.slice Aq nq cq,.int .i64 L.sent,.int .u32 nx,.int .u32 L.expected,.int .i64 L.idle,.slice Ao no co] 78 (0,0)) ∧ (((w.alloc (.cells #[.int .u32 L.own,.int .i64 L.phase,.int .u32 L.token,.int .u32 L.AB,.int .u32 L.yours,.bool L.known,.slice Aq nq cq,.int .i64 L.sent,.int .u32 nx,.int .u32 L.expected,.int .i64 L.idle,.slice Ao no co] 78)).alloc (.cells #[.int .i64 p.kind,.int .u32 p.mine,.int .u32 p.AB,.int .u32 p.yours,.int .u32 p.seq,.int .u32 p.AV,.int .u32 p.stamp,.int .u32 p.echo,.complex .f64 p.zr p.zi,.slice Ab nb cb] 27)).alloc (.cells #[.int .u32 0,.int .i64 0,.int .u32 0,.int .u32 0,.int .u32 0,.bool false,.slice none 0 0,.int .i64 0,.int .u32 0,.int .u32 0,.int .i64 0,.slice none 0 0] 78)).drew.heap[w.heap.size + 1]? = some (.cells #[.int .i64 p.kind,.int .u32 p.mine,.int .u32 p.AB,.int .u32 p.yours,.int .u32 p.seq,.int .u32 p.AV,.int .u32 p.stamp,.int .u32 p.echo,.complex .f64 p.zr p.zi,.slice Ab nb cb] 27 (0,0)) ∧ (((w.alloc (.cells #[.int .u32 L.own,.int .i64 L.phase,.int .u32 L.token,.int .u32 L.AB,.int .u32 L.yours,.bool L.known,.slice Aq nq cq,.int .i64 L.sent,.int .u32 nx,.int .u32 L.expected,.int .i64 L.idle,.slice Ao no co] 78)).alloc (.cells #[.int .i64 p.kind,.int .u32 p.mine,.int .u32 p.AB,.int .u32 p.yours,.int .u32 p.seq,.int .u32 p.AV,.int .u32 p.stamp,.int .u32 p.echo,.complex .f64 p.zr p.zi,.slice Ab nb cb] 27)).alloc (.cells #[.int .u32 0,.int .i64 0,.int .u32 0,.int .u32 0,.int .u32 0,.bool false,.slice none 0 0,.int .i64 0,.int .u32 0,.int .u32 0,.int .i64 0,.slice none 0 0] 78)).drew.heap[w.heap.size + 2]? = some (.cells #[.int .u32 0,.int .i64 0,.int .u32 0,.int .u32 0,.int .u32 0,.bool false,.slice none 0 0,.int .i64 0,.int .u32 0,.int .u32 0,.int .i64 0,.slice none 0 0] 78 (0,0)):=⟨fF _ _ _ _,YW _ _ _ _,fG _ _ _ _⟩
 refine BA (n:=9) (S:=fun w' => w'.heap[w.heap.size]? = some (.cells #[.int .u32 L.own,.int .i64 L.phase,.int .u32 L.token,.int .u32 L.AB,.int .u32 L.yours,.bool L.known,.slice Aq nq cq,.int .i64 L.sent,.int .u32 nx,.int .u32 L.expected,.int .i64 L.idle,.slice Ao no co] 78 (0,0)) ∧ w'.heap[w.heap.size + 1]? = some (.cells #[.int .i64 p.kind,.int .u32 p.mine,.int .u32 p.AB,.int .u32 p.yours,.int .u32 p.seq,.int .u32 p.AV,.int .u32 p.stamp,.int .u32 p.echo,.complex .f64 p.zr p.zi,.slice Ab nb cb] 27 (0,0)) ∧ w'.heap[w.heap.size + 2]? = some (.cells #[.int .u32 0,.int .i64 0,.int .u32 0,.int .u32 0,.int .u32 0,.bool false,.slice none 0 0,.int .i64 0,.int .u32 0,.int .u32 0,.int .i64 0,.slice none 0 0] 78 (0,0))) (ds:=[8]) Zu (by kernel_rfl) rfl rfl (hSS) (fun hHeld => ?_)
 generalize (((w.alloc (.cells #[.int .u32 L.own,.int .i64 L.phase,.int .u32 L.token,.int .u32 L.AB,.int .u32 L.yours,.bool L.known,.slice Aq nq cq,.int .i64 L.sent,.int .u32 nx,.int .u32 L.expected,.int .i64 L.idle,.slice Ao no co] 78)).alloc (.cells #[.int .i64 p.kind,.int .u32 p.mine,.int .u32 p.AB,.int .u32 p.yours,.int .u32 p.seq,.int .u32 p.AV,.int .u32 p.stamp,.int .u32 p.echo,.complex .f64 p.zr p.zi,.slice Ab nb cb] 27)).alloc (.cells #[.int .u32 0,.int .i64 0,.int .u32 0,.int .u32 0,.int .u32 0,.bool false,.slice none 0 0,.int .i64 0,.int .u32 0,.int .u32 0,.int .i64 0,.slice none 0 0] 78)).drew = w4 at hb0 hHeld ⊢
 have HB0:=Lib.hid hb0
 clear hb0
 refine pu 1 10 iH ?_
 refine tk 2 11 iI hHeld ?_ (hf:=by intro w' s0; have Ob:w'.cell? ⟨w.heap.size,11,none⟩ = some (.slice Ao no co):=(AA s0.1 11).trans rfl; clear s0; go_simp; with_reducible rfl)
 refine tk 4 13 M4i hHeld ?_ (hf:=by intro w' s0; have CP:=Try.underlying27; have hc0:w'.cell? ⟨w.heap.size + 1,0,none⟩ = some (.int .i64 p.kind):=(AA s0.2.1 0).trans rfl; have hc1:w'.cell? ⟨w.heap.size + 1,1,none⟩ = some (.int .u32 p.mine):=(AA s0.2.1 1).trans rfl; have hc2:w'.cell? ⟨w.heap.size + 1,2,none⟩ = some (.int .u32 p.AB):=(AA s0.2.1 2).trans rfl; have hc3:w'.cell? ⟨w.heap.size + 1,3,none⟩ = some (.int .u32 p.yours):=(AA s0.2.1 3).trans rfl; have hc4:w'.cell? ⟨w.heap.size + 1,4,none⟩ = some (.int .u32 p.seq):=(AA s0.2.1 4).trans rfl; have hc5:w'.cell? ⟨w.heap.size + 1,5,none⟩ = some (.int .u32 p.AV):=(AA s0.2.1 5).trans rfl; have hc6:w'.cell? ⟨w.heap.size + 1,6,none⟩ = some (.int .u32 p.stamp):=(AA s0.2.1 6).trans rfl; have Xt:w'.cell? ⟨w.heap.size + 1,7,none⟩ = some (.int .u32 p.echo):=(AA s0.2.1 7).trans rfl; have hc8:w'.cell? ⟨w.heap.size + 1,8,none⟩ = some (.complex .f64 p.zr p.zi):=(AA s0.2.1 8).trans rfl; have Bh:w'.cell? ⟨w.heap.size + 1,9,none⟩ = some (.slice Ab nb cb):=(AA s0.2.1 9).trans rfl; clear s0; go_simp; try rfl)
 have J4:=HB0.out.size
 have hlt4:=AQ hHeld.2.2
 have VS:=Lib.hid hHeld
 refine Px (iE:=0) (iC:=3) (iY:=5) (NE:=9) (NC:=12) (NY:=14) (NS:=11) (NV:=13) (fuel:=3) M4j M4k Zv M4l Zw 10 53 27 (.agg #[.int .i64 0,.int .u32 0,.int .u32 0,.int .u32 0,.int .u32 0,.int .u32 0,.int .u32 0,.int .u32 0,.complex .f64 0 0,.slice none 0 0]) 80 rfl rfl rfl rfl rfl rfl (by kernel_rfl) (by decide) (by decide) (by decide) (fun _ => rfl) (fun _ => rfl) (fun _ => rfl) rfl Try.underlying53 TK rfl (by decide) (by decide) (by decide) (by simp) (fun a' W => by first | (go_simp; done) | (go_simp; rfl)) (.agg #[.int .i64 p.kind,.int .u32 p.mine,.int .u32 p.AB,.int .u32 p.yours,.int .u32 p.seq,.int .u32 p.AV,.int .u32 p.stamp,.int .u32 p.echo,.complex .f64 p.zr p.zi,.slice Ab nb cb]) [.int .i64 p.kind,.int .u32 p.mine,.int .u32 p.AB,.int .u32 p.yours,.int .u32 p.seq,.int .u32 p.AV,.int .u32 p.stamp,.int .u32 p.echo,.complex .f64 p.zr p.zi,.slice Ab nb cb] rfl (by simp [Value.oneCell']) rfl (fun a' W hv => by (have hv2:a'.tmps[13]?.getD undef = (.agg #[.int .i64 p.kind,.int .u32 p.mine,.int .u32 p.AB,.int .u32 p.yours,.int .u32 p.seq,.int .u32 p.AV,.int .u32 p.stamp,.int .u32 p.echo,.complex .f64 p.zr p.zi,.slice Ab nb cb]:Value):=(by simpa [Act.eval] using hv)); first | (go_simp; done) | (go_simp; rfl)) Ao no co rows rfl (Kd.Cm HR.out HB0.out) (by omega) (fun w' hb => ⟨(hb.block _ (by omega)).trans VS.out.1,(hb.block _ (by omega)).trans VS.out.2.1,(hb.block _ (by omega)).trans VS.out.2.2⟩) ?_
 intro vE vC AY w5 RH UJ Nb hHeld
 have aC:=Lib.hid RH
 have aF:=Lib.hid UJ
 have FN:=Lib.hid Nb
 clear RH UJ Nb
 refine Ig (a':=?_) ?_ ?_
 rotate_left
 ·simp only [Act.put,sA,sZ,sS]
  rfl
 refine on 6 (some 15) Zx fun K hK => ?_
 refine Kd.BO (Dc 10) (Rr:=fun x cs => cs = x ∧ x.length = 10 ∧ ∀ u ∈ x,u.oneCell' = true) (w0:=w4) (W:=w5) w4.heap.size (by rfl) (.tmp 12) (.tmp 14) 53 27 (.agg #[.int .i64 0,.int .u32 0,.int .u32 0,.int .u32 0,.int .u32 0,.int .u32 0,.int .u32 0,.int .u32 0,.complex .f64 0 0,.slice none 0 0]) 80 rfl Try.underlying53 TK rfl (by decide) (by decide) vC rows [[.int .i64 p.kind,.int .u32 p.mine,.int .u32 p.AB,.int .u32 p.yours,.int .u32 p.seq,.int .u32 p.AV,.int .u32 p.stamp,.int .u32 p.echo,.complex .f64 p.zr p.zi,.slice Ab nb cb]] AY 1 1 (fun k => w4.heap.size ≤ k) (fun _ => False) rfl rfl aC.out aF.out (fun _ _ hx => hx) (fun _ hf => hf.elim) (fun k hk => Nat.le_trans FN.out.size hk) FN.out FN.out.size (by have:=HR.out.1; omega) ?_
 intro v7 w6 LM MH Nc _
 obtain ⟨A7,c7,hv7⟩:=Kd.Am LM
 have Fa:(rows ++ [([.int .i64 p.kind,.int .u32 p.mine,.int .u32 p.AB,.int .u32 p.yours,.int .u32 p.seq,.int .u32 p.AV,.int .u32 p.stamp,.int .u32 p.echo,.complex .f64 p.zr p.zi,.slice Ab nb cb]:List Value)]).length = no + 1:=by rw [List.length_append]; have:=HR.out.1; simp only [List.length_singleton]; omega
 rw [Fa] at hv7
 subst hv7
 have RI:=Lib.hid LM
 have IE:=Lib.hid MH
 have UK:=Lib.hid Fa
 clear LM MH Nc Fa hHeld
 refine hK.out _ _ ⟨(IE.out.block _ (by omega)).trans VS.out.1,(IE.out.block _ (by omega)).trans VS.out.2.1,(IE.out.block _ (by omega)).trans VS.out.2.2⟩ (fun hHeld => ?_)
 clear hK K
 refine nm 15 ?_
 refine pu 7 16 Zy ?_
 refine la 8 none Zz fun K hK => ?_
 have hz1:w6.cell? ⟨w.heap.size,11,none⟩ = some _:=(AA hHeld.1 11).trans rfl
 have hz2:=AL hHeld.1 11
 refine CG (fun wz => wz.heap[w.heap.size]? = some (.cells #[.int .u32 L.own,.int .i64 L.phase,.int .u32 L.token,.int .u32 L.AB,.int .u32 L.yours,.bool L.known,.slice Aq nq cq,.int .i64 L.sent,.int .u32 nx,.int .u32 L.expected,.int .i64 L.idle,.slice A7 (no + 1) c7] 78 (0,0)) ∧ wz.heap[w.heap.size + 2]? = some (.cells #[.int .u32 0,.int .i64 0,.int .u32 0,.int .u32 0,.int .u32 0,.bool false,.slice none 0 0,.int .i64 0,.int .u32 0,.int .u32 0,.int .i64 0,.slice none 0 0] 78 (0,0)) ∧ (Dc 10).R 27 wz w4.heap.size (fun k => w4.heap.size ≤ k) (.slice A7 (no + 1) c7) (rows ++ [([.int .i64 p.kind,.int .u32 p.mine,.int .u32 p.AB,.int .u32 p.yours,.int .u32 p.seq,.int .u32 p.AV,.int .u32 p.stamp,.int .u32 p.echo,.complex .f64 p.zr p.zi,.slice Ab nb cb]:List Value)]) ∧ Below w.heap.size w wz) (by rfl) rfl ⟨_,by first | (go_simp; done) | (go_simp; rfl),Af hHeld.1 11 _ rfl,(Below.heap_setCell _ _ _ _ (by simp)).trans hHeld.2.2,Kd.qI RI.out (p:=⟨w.heap.size,11,none⟩) (fun k hk => by show k ≠ w.heap.size; omega) _,((HB0.out.trans (IE.out.mono J4)).setCell (p:=⟨w.heap.size,11,none⟩) (Nat.le_refl _) _)⟩ (fun w7 hF => ?_)
 have HF:=Lib.hid hF
 clear hF hz1 hz2 hHeld
 refine hK.out _ _ ?_
 clear hK K
 refine BG (by kernel_rfl) ?_
 go_wp2_with (first | ((with_reducible refine AO (N:=17) rfl ?_); (refine wpList_load_row rfl 78 (.tmp 2) rfl w.heap.size (by rfl) 78 #[.int .u32 L.own,.int .i64 L.phase,.int .u32 L.token,.int .u32 L.AB,.int .u32 L.yours,.bool L.known,.slice Aq nq cq,.int .i64 L.sent,.int .u32 nx,.int .u32 L.expected,.int .i64 L.idle,.slice A7 (no + 1) c7] (0,0) _ HF.out.1 Try.underlying78 rfl (by kernel_rfl) ?_)) | ((with_reducible refine gate_ (.store 78 (.tmp 4) (.tmp 17)) rfl ?_); (refine Ad rfl rfl 78 (.tmp 4) (.tmp 17) rfl (w.heap.size + 2) #[.int .u32 L.own,.int .i64 L.phase,.int .u32 L.token,.int .u32 L.AB,.int .u32 L.yours,.bool L.known,.slice Aq nq cq,.int .i64 L.sent,.int .u32 nx,.int .u32 L.expected,.int .i64 L.idle,.slice A7 (no + 1) c7] rfl rfl 78 _ HF.out.2.1 (by kernel_rfl) rfl (by kernel_rfl) ?_); (intro w8 hb8 RJ); (have Il:=Lib.hid hb8); (have jW:=Lib.hid RJ); (clear hb8 RJ)))
 have Dt:=run_loadVar_row (P:=Try.prog) w8 (w.heap.size + 2) 78 78 _ (0,0) _ Il.out Try.underlying78 rfl (by kernel_rfl)
 refine bodyPost_ret (v:=.agg #[.int .u32 L.own,.int .i64 L.phase,.int .u32 L.token,.int .u32 L.AB,.int .u32 L.yours,.bool L.known,.slice Aq nq cq,.int .i64 L.sent,.int .u32 nx,.int .u32 L.expected,.int .i64 L.idle,.slice A7 (no + 1) c7]) (Pk.results_cell Try.results130 _ _ rfl Dt) rfl ?_
 rw [HEM.out]
 refine ⟨A7,c7,?_,?_,?_⟩
 ·show _ = Ending.returned (.agg (ev { L with out:=L.out ++ [p] } nx (.slice Aq nq cq) (.slice A7 (L.out ++ [p]).length c7)))
  rw [List.length_append,KD.out]; rfl
 ·have hB8:=jW.out.below HF.out.2.2.2 (by omega)
  have y8:=Kd.NG HF.out.2.2.1 (fun k hk hlt => jW.out.block k (by omega))
  have hC8:=(Kd.Bi y8).2.2
  refine FK.L.snoc (d:=qg) (bD.out.trans KD.out.symm) HRK.out (Kept.of_below hB8 _) (r:=([.int .i64 p.kind,.int .u32 p.mine,.int .u32 p.AB,.int .u32 p.yours,.int .u32 p.seq,.int .u32 p.AV,.int .u32 p.stamp,.int .u32 p.echo,.complex .f64 p.zr p.zi,.slice Ab nb cb]:List Value)) ⟨Ab,cb,by rw [Ez.out]; rfl,by rw [Ez.out]; exact V9.out,HB.out.below hB8⟩ hC8 (fun ad he hs => ?_)
  have h1:=HS.out _ hs
  obtain ⟨gg,cc,hgg,_⟩:=Kd.Jt y8 (by rw [UK.out]; omega)
  have hA:A7 = some ⟨gg,0,none⟩:=by injection hgg
  have h2:=y8.1 gg (by rw [hA]; rfl)
  rw [he] at hA
  have h3:ad = ⟨gg,0,none⟩:=Option.some.inj hA
  subst h3
  have h4:gg < w.heap.size:=h1
  omega
 ·exact jW.out.below HF.out.2.2.2 (by omega)
structure RE (S:Nat → Prop) (w:World) (L:Lk) (nx:Int) (Aq:Option Addr) (cq:Nat) (Ao:Option Addr) (co:Nat):Prop where
 q:YU.L S w Aq L.queue.length L.queue
 qc:L.queue.length ≤ cq
 o:qg.L S w Ao L.out.length L.out
 nx:L.phase ≠ 0 → nx = IntKind.u32.wrap (L.base + L.queue.length)
def RV (S:Nat → Prop) (w:World) (L:Lk) (v:Value):Prop:=∃ nx Aq cq Ao co,v = .agg (ev L nx (.slice Aq L.queue.length cq) (.slice Ao L.out.length co)) ∧ RE S w L nx Aq cq Ao co
theorem RE.keep {S:Nat → Prop} {w w':World} {L:Lk} {nx:Int} {Aq:Option Addr} {cq:Nat} {Ao:Option Addr} {co:Nat} (h:RE S w L nx Aq cq Ao co) (hk:Kept w w' S):RE S w' L nx Aq cq Ao co:=⟨h.q.keep hk,h.qc,h.o.keep hk,h.nx⟩
theorem RE.below {S:Nat → Prop} {w w':World} {L:Lk} {nx:Int} {Aq:Option Addr} {cq:Nat} {Ao:Option Addr} {co:Nat} (h:RE S w L nx Aq cq Ao co) (hb:Below w.heap.size w w'):RE S w' L nx Aq cq Ao co:=h.keep (Kept.of_below hb _)
theorem RE.up {S S':Nat → Prop} {w:World} {L:Lk} {nx:Int} {Aq:Option Addr} {cq:Nat} {Ao:Option Addr} {co:Nat} (hs:∀ k,S' k → S k ∨ w.heap.size ≤ k) (h:RE S w L nx Aq cq Ao co):RE S' w L nx Aq cq Ao co:=⟨h.q.up (by decide) hs,h.qc,h.o.up (by decide) hs,h.nx⟩
abbrev EV (L:Lk) (nx:Int) (Aq:Option Addr) (nq cq:Nat) (Ao:Option Addr) (no co:Nat):Value:=.agg #[.int .u32 L.own,.int .i64 L.phase,.int .u32 L.token,.int .u32 L.AB,.int .u32 L.yours,.bool L.known,.slice Aq nq cq,.int .i64 L.sent,.int .u32 nx,.int .u32 L.expected,.int .i64 L.idle,.slice Ao no co]
theorem UL (w:World) (a:Obj):Below w.heap.size w (w.alloc a):=(Below.refl w.heap.size w).alloc (Nat.le_refl _) a
theorem Io (w:World) (a b:Obj):Below w.heap.size w ((w.alloc a).alloc b):=(UL w a).alloc (by simp) b
theorem fH (w:World) (L:Lk) (nx:Int) (Aq:Option Addr) (nq cq:Nat) (Ao:Option Addr) (no co:Nat) (hnq:nq ≤ 1000) :
  Calls Try.prog 117 #[EV L nx Aq nq cq Ao no co] w fun e w' => e = .returned (.int .u32 (IntKind.u32.wrap (nx - nq))) ∧ Below w.heap.size w w':=by
 unfold EV
 have Df:=Try.underlying78
 go_enter Try.func117,Try.ntmps117
 go_wp2
 all_goals (go_ret; refine ⟨?_,UL _ _⟩)
 refine PO ?_
 simp only [FZ]
 try omega
theorem jX (w:World) (a b:Int) (ha:0 ≤ a ∧ a < 4294967296) (hb:0 ≤ b ∧ b < 4294967296) :
  Calls Try.prog 133 #[.int .u32 a,.int .u32 b] w fun e w' => e = .returned (.int .u64 (IntKind.u32.wrap (b - a))) ∧ w = w':=by
 go_enter Try.func133,Try.ntmps133
 go_wp2
 all_goals (go_ret; refine ⟨?_,rfl⟩)
 refine PO ?_
 simp only [FZ]
 omega
theorem UM (w:World) (L:Lk) (nx:Int) (Aq:Option Addr) (nq cq:Nat) (Ao:Option Addr) (no co:Nat) (p:Bz) (Ab:Option Addr) (nb cb:Nat) :
  Calls Try.prog 132 #[EV L nx Aq nq cq Ao no co,.agg #[.int .i64 p.kind,.int .u32 p.mine,.int .u32 p.AB,.int .u32 p.yours,.int .u32 p.seq,.int .u32 p.AV,.int .u32 p.stamp,.int .u32 p.echo,.complex .f64 p.zr p.zi,.slice Ab nb cb]] w fun e w' => e = .returned (.bool (BI L p)) ∧ Below w.heap.size w w':=by
 unfold EV BI
 have Df:=Try.underlying78
 have CP:=Try.underlying27
 go_enter Try.func132,Try.ntmps132
 go_wp2
 all_goals (go_ret; refine ⟨?_,Io _ _ _⟩)
 all_goals (refine Dv ?_; first | (simp_all; done) | (simp_all; rfl))
theorem YZ {S:Nat → Prop} {w:World} {L:Lk} {nx:Int} {Aq:Option Addr} {cq:Nat} {Ao:Option Addr} {co:Nat} (h:RE S w L nx Aq cq Ao co) (ht:0 ≤ L.token ∧ L.token < 4294967295) :
  Calls Try.prog 116 #[EV L nx Aq L.queue.length cq Ao L.out.length co] w fun e w' => (e = .returned (EV (CB L) 4294967293 none 0 0 Ao L.out.length co) ∧ RE S w' (CB L) 4294967293 none 0 Ao co) ∧ Below w.heap.size w w':=by
 unfold EV
 have H:=Lib.hid h
 clear h
 generalize L.queue.length = nq
 generalize hno:L.out.length = no
 have KD:=Lib.hid hno
 clear hno
 have Df:=Try.underlying78
 go_enter Try.func116,Try.ntmps116
 go_wp2
 all_goals go_returns
 refine ⟨⟨rfl,⟨FK.L.nil YU S _ none,Nat.le_refl _,H.out.o.below (Io _ _ _),fun _ => rfl⟩⟩,Io _ _ _⟩
theorem KU (L:Lk) (p:Bz):(emit_ L p).queue = L.queue:=by unfold emit_; split <;> rfl
theorem RE.emit {S:Nat → Prop} {w w':World} {L:Lk} {nx:Int} {Aq:Option Addr} {cq:Nat} {Ao:Option Addr} {co:Nat} (h:RE S w L nx Aq cq Ao co) (p:Bz) {A1:Option Addr} {c1:Nat} (hb:Kept w w' S) (hO:qg.L S w' A1 (emit_ L p).out.length (emit_ L p).out):RE S w' (emit_ L p) nx Aq cq A1 c1:=by
 have e1:=KU L p
 have e2:(emit_ L p).phase = L.phase:=by unfold emit_; split <;> rfl
 have e3:(emit_ L p).base = L.base:=by unfold emit_; split <;> rfl
 exact ⟨by rw [e1]; exact h.q.keep hb,by rw [e1]; exact h.qc,hO,by rw [e1,e2,e3]; exact h.nx⟩
def plus (S:Nat → Prop) (w:World) (n:Nat):Nat → Prop:=fun k => S k ∨ (w.heap.size ≤ k ∧ k < w.heap.size + n)
theorem JR {S:Nat → Prop} {w W:World} {n:Nat} (hS:∀ k,S k → k < w.heap.size) (hW:w.heap.size + n ≤ W.heap.size):∀ k,plus S w n k → k < W.heap.size:=fun k hk => by
 rcases hk with hk | hk
 ·have:=hS k hk; omega
 ·omega
theorem FB {S:Nat → Prop} {w:World} {n:Nat}:∀ k,plus S w n k → S k ∨ w.heap.size ≤ k:=fun k hk => hk.elim .inl (fun h => .inr h.1)
theorem IV {S:Nat → Prop} {w w1:World} {n:Nat}:∀ k,S k → plus S w n k ∨ w1.heap.size ≤ k:=fun k hk => .inl (.inl hk)
theorem CE {S:Nat → Prop} {w:World} {n i:Nat} (h:i < n):plus S w n (w.heap.size + i):=.inr ⟨by omega,by omega⟩
theorem AP {g:Nat} {w w':World} {S:Nat → Prop} (h:Steps.At g w w') (hg:S g):Kept w w' S:=⟨Nat.le_of_eq h.size.symm,fun i _ hs => h.block i (fun e => hs (e ▸ hg))⟩
theorem UN {S:Nat → Prop} {w:World} (hS:∀ k,S k → k < w.heap.size) {L:Lk} {nx:Int} {Aq:Option Addr} {cq:Nat} {Ao:Option Addr} {co:Nat} (h:RE S w L nx Aq cq Ao co) (b y s:Int) (hp:Bc L = ⟨1,L.token,b,y,s,0,0,0,0,0,[]⟩) (k:Bool) (hk:L.known = k) (hb:b = if k = true then L.AB else 0) (hy:y = if k = true then L.yours else 0) (d2:Bool) (hd2:(L.phase == 2) = d2) (hs:s = if d2 = true then 1 else 0) :
  Calls Try.prog 115 #[EV L nx Aq L.queue.length cq Ao L.out.length co] w fun e w' => (∃ v,e = .returned v ∧ RV S w' (emit_ L (Bc L)) v) ∧ Below w.heap.size w w':=by
 rw [hp]
 have HE:=Lib.hid h
 have HS:=Lib.hid hS
 clear hp h hS
 unfold EV
 generalize hnq:L.queue.length = nq
 generalize hno:L.out.length = no
 have LP:=Lib.hid hnq
 have KD:=Lib.hid hno
 clear hnq hno
 rw [hk]
 have HK:=Lib.hid hk
 clear hk
 have Df:=Try.underlying78
 have CP:=Try.underlying27
 go_enter Try.func115,Try.ntmps115
 cases k <;> cases d2 <;> (simp only [if_true,if_false,Bool.false_eq_true] at hb hy hs; subst hb hy hs)
 all_goals (
  go_wp2_with (first | (go_at_call 130; (have hcx:=fun (W:World) (hW:Below w.heap.size w W) (hz:w.heap.size + 3 ≤ W.heap.size) (b y s:Int) => YY (S:=plus S w 3) (w:=W) (JR HS.out hz) (L:=L) (nx:=nx) (Aq:=Aq) (nq:=nq) (cq:=cq) (Ao:=Ao) (co:=co) ((HE.out.o.up (by decide) FB).below hW) ⟨1,L.token,b,y,s,0,0,0,0,0,[]⟩ (Ab:=none) (cb:=0) (Gl.nil _ W) (Nat.le_refl _)); (simp only [ev,cells,List.length_nil,KD.out,HK.out] at hcx); (with_reducible refine (hcx _ (jV w _ _ _) (by simp) _ _ _).mono ?_); clear hcx; (intro e w1 hem); (obtain ⟨A1,c1,he,qm,hb1⟩:=hem); (have Ph:=Lib.hid hb1); (have y9:=Lib.hid qm); (have HZ:=Lib.hid ((hb1.block (w.heap.size + 1) (by first | (simp; done) | (simp; omega))).trans (YW _ _ _ _))); (have HB1:=Lib.hid ((jV w _ _ _).trans (hb1.mono (jV w _ _ _).size))); (subst he); clear hb1 qm) | ((with_reducible refine gate_ (.store 78 (.tmp 2) (.tmp 21)) rfl ?_); (refine Ad rfl rfl 78 (.tmp 2) (.tmp 21) rfl (w.heap.size + 1) _ rfl rfl 78 _ HZ.out (by kernel_rfl) rfl (by kernel_rfl) ?_); (intro w2 hbX Ec); (have HB2:=Lib.hid hbX); (have jY:=Lib.hid Ec); (clear hbX Ec)))
  have Dt:=run_loadVar_row (P:=Try.prog) w2 (w.heap.size + 1) 78 78 _ (0,0) _ HB2.out Try.underlying78 rfl (by kernel_rfl)
  refine bodyPost_ret (v:=_) (Pk.results_cell Try.results115 _ _ rfl Dt) rfl ?_
  refine ⟨⟨_,rfl,nx,Aq,cq,A1,c1,?_,?_⟩,jY.out.below HB1.out (by omega)⟩
  ·rw [KU,LP.out]
  ·exact HE.out.emit _ (Kept.of_below (jY.out.below HB1.out (by omega)) _) ((y9.out.keep (AP jY.out (CE (by decide)))).up (by decide) IV))
theorem Py {S:Nat → Prop} {w:World} (hS:∀ k,S k → k < w.heap.size) {L:Lk} {nx:Int} {Aq:Option Addr} {cq:Nat} {Ao:Option Addr} {co:Nat} (h:RE S w L nx Aq cq Ao co) :
  Calls Try.prog 115 #[EV L nx Aq L.queue.length cq Ao L.out.length co] w fun e w' => (∃ v,e = .returned v ∧ RV S w' (emit_ L (Bc L)) v) ∧ Below w.heap.size w w' :=
 UN hS h _ _ _ rfl _ rfl rfl rfl (decide (L.phase = 2)) (by rfl) (by by_cases h2:L.phase = 2 <;> simp [h2])
end Go.Proofs.Ytnkkgofpifhoeaa.Rf
end
